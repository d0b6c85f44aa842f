/- A column of numbers: a cell. -/
import Derived.Test.YtdhnmgndekncpaaDoorM0
import Derived.Deep.QuietTactic
import Derived.BigQuiet
namespace Go.Proofs.YtdhnmgndekncpaaDoor
open Go Go.RowKit Go.Maps Go.WideMaps

/-- Three results; the world but for draws as it was. -/
def Told3 (a b c : Value) (w : World) (e : Ending) (w' : World) : Prop := e = .returned (.tuple #[a, b, c]) ∧ ∃ m, w' = w.drewN m

set_option maxRecDepth 100000 in
set_option maxHeartbeats 400000 in
theorem atI_no {w : World} {B c nl : Nat} {v u : Value} {n : Nat} {vs : List Value} {bs : List Nat} {fs : List Bool} (h : Col 110 2 1 w B c v u n vs bs fs nl) (i : Int) (hi : i < 0 ∨ (n : Int) ≤ i) :
    Calls Tryd.prog 31 #[.pointer (some ⟨c, 0, none⟩), .int .i64 i] w (Told3 (.int .i64 0) (.bool false) (.int .i64 1) w) := by
  have c0 : w.cell? ⟨c, 0, none⟩ = some v := Lib.cell_of_heap h.blk 0
  obtain ⟨A, cp, rfl⟩ := slice_form h.vals
  by_cases h0 : i < 0
  · go_enter Tryd.func31, Tryd.ntmps31
    go_wp2
    go_ret3
    exact ⟨rfl, 0, rfl⟩
  · have h1 : (n : Int) ≤ i := by omega
    have h2 : 0 ≤ i := by omega
    go_enter Tryd.func31, Tryd.ntmps31
    go_wp2
    go_ret3
    exact ⟨rfl, 0, rfl⟩

set_option maxRecDepth 100000 in
set_option maxHeartbeats 400000 in
theorem atI_yes {w : World} {B c nl : Nat} {v u : Value} {n : Nat} {vs : List Value} {bs : List Nat} {fs : List Bool} (h : Col 110 2 1 w B c v u n vs bs fs nl) (hl : fs.length = n) (hx : n < 17592186044416) (i : Nat) (hi : i < n) (x : Int) (hxi : vs[i]? = some (.int .i64 x)) (f : Bool) (hf : fs[i]? = some f) :
    Calls Tryd.prog 31 #[.pointer (some ⟨c, 0, none⟩), .int .i64 i] w (Told3 (.int .i64 x) (.bool (!f)) (.int .i64 0) w) := by
  obtain ⟨g, cp, rfl, _, _⟩ := h.vals.form (by omega)
  obtain ⟨b, hb, hb64, hbit⟩ := bits_at h.isb (i := i) (by omega)
  have hql : i / 64 < bs.length := by rw [h.isb.1]; omega
  obtain ⟨g2, cp2, rfl, _, _⟩ := h.bits.form (by omega)
  have c0 : w.cell? ⟨c, 0, none⟩ = some (.slice (some ⟨g, 0, none⟩) n cp) := Lib.cell_of_heap h.blk 0
  have c1 : w.cell? ⟨c, 1, none⟩ = some (.slice (some ⟨g2, 0, none⟩) bs.length cp2) := Lib.cell_of_heap h.blk 1
  have d0 : w.cell? ⟨g, i, none⟩ = some (.int .i64 x) := by rw [h.vals.cellAt i (by omega), hxi]
  obtain ⟨q, HQ⟩ := name_it (i / 64)
  obtain ⟨r, HR⟩ := name_it (i % 64)
  have d1 : w.cell? ⟨g2, q, none⟩ = some (.int .u64 b) := by rw [h.bits.cellAt q (by rw [← HQ.out]; omega), List.getElem?_map, ← HQ.out, hb]; rfl
  have e1 : (0 : Int) ≤ i := by omega
  have e2 : (i : Int) < n := by omega
  have hq : (i : Int).tdiv 64 = (q : Int) := by rw [← HQ.out, Int.tdiv_eq_ediv_of_nonneg (by omega)]; omega
  have hr : (i : Int).tmod 64 = (r : Int) := by rw [← HR.out, Int.tmod_eq_emod_of_nonneg (by omega)]; omega
  have hq2 : (i : Int) / 64 = (q : Int) := by rw [← HQ.out]; omega
  have hr2 : (i : Int) % 64 = (r : Int) := by rw [← HR.out]; omega
  have hqw : IntKind.i64.wrap (q : Int) = (q : Int) := IntWalk.i64_in _ (by omega)
  have hrw : IntKind.i64.wrap (r : Int) = (r : Int) := IntWalk.i64_in _ (by omega)
  have e3 : (0 : Int) ≤ q := by omega
  have e4 : (q : Int) < bs.length := by omega
  have e5 : (0 : Int) ≤ r := by omega
  have e6 : (r : Int) < 64 := by omega
  have hn0 : decide ((i : Int) < 0) = false := decide_eq_false (by omega)
  have hn1 : decide ((n : Int) ≤ i) = false := decide_eq_false (by omega)
  have hbb : (bits BinOp.and IntKind.u64 ((b : Int) / 2 ^ r) 1 == 0) = !f := by
    have h1 : (b : Int) / 2 ^ r = ((b / 2 ^ r : Nat) : Int) := by push_cast; rfl
    have h2 : b / 2 ^ r ≤ b := Nat.div_le_self _ _
    rw [h1, and_one_u64 _ (Int.natCast_nonneg _) (by have := Int.ofNat_le.2 h2; omega)]
    have h3 := bit_of b r
    rw [HR.out, List.getD_eq_getElem?_getD, hf] at hbit
    have h4 : b.testBit r = f := hbit
    rw [h4] at h3
    have h5 : ((b / 2 ^ r : Nat) : Int) % 2 = ((b / 2 ^ r % 2 : Nat) : Int) := by push_cast; rfl
    rw [h5, h3]
    cases f <;> rfl
  have e7 : decide (n ≤ i) = false := decide_eq_false (by omega)
  clear h hl hxi hf hb hbit
  go_enter Tryd.func31, Tryd.ntmps31
  go_wp2_with fail
  go_quiet (fail)
  go_wp2_with fail
  go_ret3
  exact ⟨rfl, nq, rfl⟩
end Go.Proofs.YtdhnmgndekncpaaDoor
