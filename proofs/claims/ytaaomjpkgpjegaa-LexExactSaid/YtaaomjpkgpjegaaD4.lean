/- Walk of kinded. -/
import Derived.Test.YtaaomjpkgpjegaaD3
import Derived.Test.YtaaomjpkgpjegaaD0
namespace Go.Proofs.Ytaaomjpkgpjegaa
open Go.RowKit

theorem flat_length (ts : List Tok) : (flat ts).length = ts.length * 5 := by
  induction ts with
  | nil => rfl
  | cons t ts ih =>
    have : flat (t :: ts) = (tokCells t).toList ++ flat ts := rfl
    rw [this, List.length_append, ih]
    simp [tokCells, lxCells]
    omega
theorem flat_at (ts : List Tok) (k j : Nat) (hk : k < ts.length) (hj : j < 5) : (flat ts)[k * 5 + j]? = (tokCells ts[k])[j]? := by
  induction ts generalizing k with
  | nil => simp at hk
  | cons t ts ih =>
    have hf : flat (t :: ts) = (tokCells t).toList ++ flat ts := rfl
    have h5 : (tokCells t).toList.length = 5 := by simp [tokCells, lxCells]
    rw [hf]
    cases k with
    | zero =>
      rw [List.getElem?_append_left (by omega)]
      simp
    | succ k =>
      rw [List.getElem?_append_right (by omega), h5]
      have : (k + 1) * 5 + j - 5 = k * 5 + j := by omega
      rw [this, ih k (by simpa using hk)]
      simp

/-- The cells of a lexeme among those that were told. -/
theorem own_tok {w : World} {base g n cap : Nat} {ts : List Tok} (h : w.ownsRow base 36 5 (.slice (some ⟨g, 0, none⟩) n cap) n (flat ts)) (hn : n = ts.length) (k j : Nat) (hk : k < ts.length) (hj : j < 5) :
    w.cell? ⟨g, k * 5 + j, none⟩ = (tokCells ts[k])[j]? := by
  rw [h.cellAt (k * 5 + j) (by omega), flat_at ts k j hk hj]

set_option maxHeartbeats 1000000 in
theorem kinded_any (s : ByteArray) (lang : Int) (ts : List Tok) (w : World) (hs : s.size ≤ 16384) (hl : lexAll lang s.data.toList = (ts, none)) (h0 : 0 < ts.length)
    (A : Option Addr) (cap : Nat) (hr : Reads w w.heap.size 1 A ts.length (ts.map fun t => .int .i64 t.x.kind)) :
    Calls Try.prog 19 #[.int .i64 lang, .string s, .slice A ts.length cap] w fun e w' => e = .returned (.bool true) ∧ Below w.heap.size w w' := by
  have hlen : ts.length ≤ 16384 := by have := lexAll_count hl; simp at this; omega
  obtain ⟨n, HN⟩ := name_it ts.length
  have HL := Lib.hid hl
  clear hl
  rw [HN.out] at hlen h0 hr ⊢
  have t0 : ((n : Int) == 0) = false := by apply beq_eq_false_iff_ne.2; omega
  go_enter Try.func19, Try.ntmps19
  go_wp2_with fail
  refine (lex_ok rfl HL.out hs _).mono ?_
  rintro e w1 ⟨v, rfl, ho, hb⟩
  rw [HN.out] at ho
  obtain ⟨m, rfl⟩ : ∃ m, n = m + 1 := ⟨n - 1, by omega⟩
  obtain ⟨g, cp, rfl⟩ := ownsRow_succ ho
  have hr1 := hr.below hb
  go_wp2
  go_loopw [10] (fun i wr => ∃ k : Nat, k ≤ m + 1 ∧ i = .int .i64 k ∧ ∃ j, wr = w1.drewN j) (fun i _ => m + 1 - (intOf i).toNat)
  case atStart => exact ⟨0, by omega, rfl, 0, rfl⟩
  case round =>
    obtain ⟨k, hk, rfl, j, rfl⟩ := hrel
    by_cases hlt : k < m + 1
    · obtain ⟨ad, u, rfl, _, hu, hc⟩ := hr1.at_ hlt
      have hk' : k < ts.length := by rw [HN.out]; exact hlt
      have c1 : w1.cell? ⟨g, k * 5, none⟩ = some (.int .i64 ts[k].x.kind) := own_tok ho HN.out.symm k 0 hk' (by omega)
      have hu' : u = .int .i64 ts[k].x.kind := by
        rw [List.getElem?_map, List.getElem?_eq_getElem hk'] at hu
        exact (Option.some.inj hu).symm
      rw [hu'] at hc
      clear hu hu'
      have e1 : (0 : Int) ≤ k := by omega
      have e2 : (k : Int) < m + 1 := by omega
      have e3 : (k : Int) < ((m + 1 : Nat) : Int) := by omega
      generalize ts[k].x.kind = z at c1 hc
      go_wp2
      go_quiet (fail)
      go_wp2
      go_roundw
      case rel => exact ⟨k + 1, by omega, by go_num, _, rfl⟩
      case measure => simp [intOf]; omega
    · go_wp2
      go_ret
      exact ⟨rfl, below_drewN hb _⟩

theorem kinded_no (s : ByteArray) (lang : Int) (ts : List Tok) (r : Nat) (w : World) (hs : s.size ≤ 16384) (hl : lexAll lang s.data.toList = (ts, some r)) :
    Calls Try.prog 19 #[.int .i64 lang, .string s, .slice none 0 0] w fun e w' => e = .returned (.bool true) ∧ Below w.heap.size w w' := by
  have HL := Lib.hid hl
  clear hl
  go_enter Try.func19, Try.ntmps19
  go_wp2_with fail
  refine (lex_no rfl HL.out hs _).mono ?_
  rintro e w1 ⟨rfl, hb⟩
  go_wp2
  go_ret
  exact ⟨rfl, hb⟩

end Go.Proofs.Ytaaomjpkgpjegaa
