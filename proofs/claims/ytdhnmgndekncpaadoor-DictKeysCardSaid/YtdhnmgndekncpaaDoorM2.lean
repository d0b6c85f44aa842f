/- The reference's Index: the first place of a text in a list. -/
import Derived.Test.YtdhnmgndekncpaaDoorM1
import Derived.Test.YtdhnmgndekncpaaDoorR0
namespace Go.Proofs.YtdhnmgndekncpaaDoor
open Go Go.RowKit Go.Maps Go.WideMaps

theorem place_of {K : Type} [DecidableEq K] {ks : List K} {s : K} {k : Nat} (hk : ks[k]? = some s) (hj : ∀ j, j < k → ks[j]? ≠ some s) : place ks s = k := by
  induction ks generalizing k with
  | nil => simp at hk
  | cons a r ih =>
    unfold place
    rw [List.idxOf_cons]
    cases k with
    | zero =>
      simp at hk
      subst hk
      simp
    | succ k =>
      have h0 : a ≠ s := fun e => hj 0 (by omega) (by simp [e])
      simp only [List.getElem?_cons_succ] at hk
      have := ih hk (fun j hjk => by have := hj (j + 1) (by omega); simpa using this)
      unfold place at this
      rw [show (a == s) = false from by simpa using h0, this]; rfl
def idxI (ks : List ByteArray) (s : ByteArray) : Int := if place ks s < ks.length then ((place ks s : Nat) : Int) else -1
theorem place_lt {K : Type} [DecidableEq K] {ks : List K} {s : K} (h : s ∈ ks) : place ks s < ks.length := List.idxOf_lt_length_of_mem h
theorem place_no {K : Type} [DecidableEq K] {ks : List K} {s : K} (h : s ∉ ks) : place ks s = ks.length := List.idxOf_eq_length h
theorem idxI_yes {ks : List ByteArray} {s : ByteArray} {k : Nat} (hk : ks[k]? = some s) (hj : ∀ j, j < k → ks[j]? ≠ some s) : idxI ks s = (k : Int) := by
  unfold idxI
  rw [if_pos (place_lt (List.mem_of_getElem? hk)), place_of hk hj]
theorem idxI_no {ks : List ByteArray} {s : ByteArray} (hj : ∀ j, j < ks.length → ks[j]? ≠ some s) : idxI ks s = -1 := by
  unfold idxI
  rw [if_neg]
  rw [place_no]
  · omega
  intro h
  obtain ⟨j, hjl, e⟩ := List.mem_iff_getElem.1 h
  exact hj j hjl (by rw [List.getElem?_eq_getElem hjl, e])
theorem str_ne {a b : ByteArray} (h : a ≠ b) : (a.toList == b.toList) = false := by
  rw [ByteArray.toList_eq, ByteArray.toList_eq]
  exact beq_eq_false_iff_ne.2 (fun e => h (ByteArray.ext (Array.toList_inj.1 e)))
theorem ret_i64 {a b : Int} (h : a = b) : Ending.returned (.int .i64 a) = .returned (.int .i64 b) := by rw [h]

set_option maxRecDepth 100000 in
set_option maxHeartbeats 400000 in
theorem index_any {w : World} {B : Nat} {v : Value} {ks : List ByteArray} (h : w.ownsRow B 9 1 v ks.length (ks.map .string)) (s : ByteArray) (hn : ks.length ≤ 100000) :
    Calls Tryd.prog 21 #[v, .string s] w fun e w' => e = .returned (.int .i64 (idxI ks s)) ∧ w' = w := by
  obtain ⟨A, cp, rfl⟩ := slice_form h
  have H := Lib.hid h
  clear h
  obtain ⟨n, HN⟩ := name_it ks.length
  rw [HN.out] at hn H ⊢
  go_enter Tryd.func21, Tryd.ntmps21
  go_wp2
  go_loop [5] (fun i => ∃ k : Nat, k ≤ n ∧ i = .int .i64 k ∧ Hid (∀ j, j < k → ks[j]? ≠ some s)) (fun i => n - (intOf i).toNat)
  case atStart => exact ⟨0, Nat.zero_le _, rfl, Lib.hid (fun j hj => absurd hj (by omega))⟩
  case round =>
    obtain ⟨k, hk, rfl, hj⟩ := hrel
    by_cases hlt : k < n
    · obtain ⟨g, cap, hv, _, _⟩ := H.out.form (by omega)
      obtain ⟨x, hx⟩ : ∃ x, ks[k]? = some x := ⟨ks[k]'(by rw [HN.out]; exact hlt), List.getElem?_eq_getElem _⟩
      have hc : w.cell? ⟨g, k, none⟩ = some (.string x) := by
        have h1 := H.out
        rw [hv] at h1
        rw [h1.cellAt k (by omega), List.getElem?_map, hx]; rfl
      injection hv with hv _ _
      subst hv
      have HX := Lib.hid hx
      clear hx
      have e1 : (0 : Int) ≤ k := by omega
      have e2 : (k : Int) < n := by omega
      by_cases he : x = s
      · subst he
        go_wp2
        go_ret
        exact ⟨ret_i64 (idxI_yes HX.out hj.out).symm, rfl⟩
      · have t1 := str_ne he
        have HE := Lib.hid he
        clear he
        go_wp2
        go_round
        case rel =>
          refine ⟨k + 1, by omega, by go_num, Lib.hid (fun j hjk => ?_)⟩
          by_cases ej : j = k
          · subst ej
            rw [HX.out]
            exact fun e => HE.out (by injection e)
          · exact hj.out j (by omega)
        case measure => simp [intOf]; omega
    · have hkn : k = n := by omega
      subst hkn
      go_wp2
      go_ret
      exact ⟨ret_i64 (idxI_no (by rw [HN.out]; exact hj.out)).symm, rfl⟩
end Go.Proofs.YtdhnmgndekncpaaDoor
