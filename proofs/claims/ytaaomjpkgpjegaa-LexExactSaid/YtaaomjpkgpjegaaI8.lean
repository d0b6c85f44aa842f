/- The marks in the document's own order; the list of them in memory. -/
import Derived.Test.YtaaomjpkgpjegaaH5
namespace Go.Proofs.Ytaaomjpkgpjegaa
open Go Go.RowKit

/-- All marks, in the order in which they are tried. -/
def markAll : List (List UInt8) := markTwos ++ markOnes.map fun c => [c]
def mk (k : Nat) : List UInt8 := markAll.getD k []
def marksArr : Array Value := (markAll.map fun m => Value.string (strB m)).toArray

set_option maxHeartbeats 400000 in
theorem marks_any (w : World) : Calls Try.prog 45 #[] w fun e w' => e = .returned (.slice (some ⟨w.heap.size, 0, none⟩) 27 27) ∧ w' = w.alloc (.cells marksArr 9) := by
  go_enter Try.func45, Try.ntmps45
  go_wp2
  go_ret
  exact ⟨rfl, rfl⟩
theorem marksArr_at {k : Nat} (h : k < 27) : marksArr[k]? = some (.string (strB (mk k))) := by
  have hl : markAll.length = 27 := rfl
  unfold marksArr mk
  rw [List.getElem?_toArray, List.getElem?_map, List.getD_eq_getElem?_getD, List.getElem?_eq_getElem (by omega)]
  rfl
theorem mk_len : ∀ k, k < 27 → 0 < (mk k).length ∧ (mk k).length ≤ 2 := by decide
theorem mk_two : ∀ k, k < 7 → mk k = mt k := by decide
theorem mk_one : ∀ k, 7 ≤ k → k < 27 → mk k = [markOnes.getD (k - 7) 0] ∧ 0 ≤ Lib.indexByte markOnes (markOnes.getD (k - 7) 0) := by
  intro k h1 h2
  have : ∀ j, j < 20 → mk (j + 7) = [markOnes.getD j 0] ∧ 0 ≤ Lib.indexByte markOnes (markOnes.getD j 0) := by decide
  have h3 := this (k - 7) (by omega)
  rw [show k - 7 + 7 = k by omega] at h3
  exact h3

theorem pre_take {r m : List UInt8} (h : Lib.hasPrefix r m = true) : r.take m.length = m := by
  obtain ⟨t, rfl⟩ := List.isPrefixOf_iff_prefix.1 h
  simp
theorem mark_first {r : List UInt8} {k : Nat} (hk : k < 27) (h : ∀ j, j < k → Lib.hasPrefix r (mk j) = false) (h1 : Lib.hasPrefix r (mk k) = true) : markLen r = (mk k).length := by
  rcases Nat.lt_or_ge k 7 with h7 | h7
  · rw [markLen_two k h7 (by rw [← mk_two k h7]; exact h1), mk_two k h7, twos_len k h7]
  · obtain ⟨e1, e2⟩ := mk_one k h7 hk
    rw [e1] at h1 ⊢
    obtain ⟨t, rfl⟩ := List.isPrefixOf_iff_prefix.1 h1
    exact (markLen_one (c := markOnes.getD (k - 7) 0) (t := t) rfl (fun j hj => by rw [← mk_two j hj]; exact h j (by omega))).trans (if_pos e2)
theorem index_none {c : UInt8} : ∀ (l : List UInt8), c ∉ l → Lib.indexByte l c = -1 := by
  intro l
  induction l with
  | nil => intro _; rfl
  | cons b l ih =>
    intro h
    have h1 : (b == c) = false := by
      rw [beq_eq_false_iff_ne]
      intro e
      exact h (by rw [e]; exact List.mem_cons_self)
    have h2 := ih (fun hm => h (List.mem_cons_of_mem _ hm))
    simp [Lib.indexByte, h1, h2]
theorem mark_none {r : List UInt8} (h : ∀ j, j < 27 → Lib.hasPrefix r (mk j) = false) : markLen r = 0 := by
  cases r with
  | nil => rfl
  | cons c t =>
    rw [markLen_one (c := c) (t := t) rfl (fun j hj => by rw [← mk_two j hj]; exact h j (by omega)), if_neg]
    rw [index_none markOnes]
    · decide
    · intro hm
      obtain ⟨j, hj, e⟩ := List.getElem_of_mem hm
      have hj2 : j < 20 := hj
      have := h (j + 7) (by omega)
      rw [(mk_one (j + 7) (by omega) (by omega)).1, Nat.add_sub_cancel, List.getD_eq_getElem?_getD, List.getElem?_eq_getElem hj, e] at this
      simp [Lib.hasPrefix] at this

end Go.Proofs.Ytaaomjpkgpjegaa
