/- The law's own look at one cell. -/
import Derived.Test.YtdhnmgndekncpaaDoorN1
namespace Go.Proofs.YtdhnmgndekncpaaDoor
open Go Go.RowKit Go.Maps Go.WideMaps

/-- A law's cells in memory. -/
def cellsOf (L : List (Int × Bool)) : List Value := L.flatMap fun c => [.int .i64 c.1, .bool c.2]
/-- What they are in a column. -/
def valsOf (L : List (Int × Bool)) : List Int := L.map fun c => if c.2 then 0 else c.1
def nullsOf (L : List (Int × Bool)) : List Bool := L.map (·.2)
theorem cellsOf_at {L : List (Int × Bool)} {j : Nat} {c : Int × Bool} (h : L[j]? = some c) : (cellsOf L)[j * 2]? = some (.int .i64 c.1) ∧ (cellsOf L)[j * 2 + 1]? = some (.bool c.2) := by
  induction L generalizing j with
  | nil => simp at h
  | cons a r ih =>
    cases j with
    | zero => simp at h; subst h; simp [cellsOf]
    | succ j =>
      have := ih (j := j) (by simpa using h)
      unfold cellsOf at this ⊢
      rw [List.flatMap_cons, show (j + 1) * 2 = j * 2 + 2 by omega]
      simpa using this

theorem cells_length {w : World} {B n : Nat} {A : Option Addr} {L : List (Int × Bool)} (h : Reads w B 2 A n (cellsOf L)) : L.length = n := by
  have h1 := h.1
  have h2 : (cellsOf L).length = L.length * 2 := by
    unfold cellsOf
    induction L with
    | nil => rfl
    | cons a r ih =>
      rw [List.flatMap_cons, List.length_append, List.length_cons]
      have : (List.flatMap (fun c : Int × Bool => [Value.int .i64 c.1, Value.bool c.2]) r).length = r.length * 2 := by
        clear ih h h1
        induction r with
        | nil => rfl
        | cons b r ih => rw [List.flatMap_cons, List.length_append, ih, List.length_cons]; simp; omega
      rw [this]; simp; omega
  omega
/-- A cell's two parts in memory. -/
theorem reads_cell {w : World} {B n : Nat} {A : Option Addr} {L : List (Int × Bool)} (h : Reads w B 2 A n (cellsOf L)) {k : Nat} (hk : k < n) : ∃ ad N nu, A = some ad ∧ L[k]? = some (N, nu) ∧ w.cell? (ad.add (k * 2)) = some (.int .i64 N) ∧ w.cell? ⟨(ad.add (k * 2)).block, (ad.add (k * 2)).off + 1, none⟩ = some (.bool nu) := by
  have hl := cells_length h
  obtain ⟨ad, e, hb, hc⟩ := h.2 (by omega)
  obtain ⟨x, hx⟩ : ∃ x, L[k]? = some x := ⟨L[k]'(by omega), List.getElem?_eq_getElem _⟩
  obtain ⟨q1, q2⟩ := cellsOf_at hx
  have k2 := hc _ _ q2
  rw [← add_of_add] at k2
  exact ⟨ad, x.1, x.2, e, hx, hc _ _ q1, k2⟩

set_option maxRecDepth 100000 in
set_option maxHeartbeats 400000 in
theorem cell_any {w : World} {B c nl : Nat} {v u : Value} {L M : List (Int × Bool)} {bs : List Nat} (h : Col 110 2 1 w B c v u M.length ((valsOf M).map (.int .i64)) bs (nullsOf M) nl) (hx : M.length ≤ 300) (hp : ∀ j, j < M.length → L[j]? = M[j]?)
    (A : Option Addr) (n cap : Nat) (A1 : Option Addr) (n1 cap1 : Nat) (A2 : Option Addr) (n2 cap2 : Nat) (hr : Reads w w.heap.size 2 A n (cellsOf L)) (hn : M.length ≤ n) (i : Int) :
    Calls Tryd.prog 29 #[.pointer (some ⟨c, 0, none⟩), .agg #[.slice A n cap, .slice A1 n1 cap1, .slice A2 n2 cap2], .int .i64 i, .int .i64 (M.length : Nat)] w fun e w' => e = .returned (.bool true) ∧ Below w.heap.size w w' := by
  have HH := Lib.hid h
  have HP := Lib.hid hp
  have HR := Lib.hid hr
  clear h hp hr
  by_cases hi : 0 ≤ i ∧ i < M.length
  · obtain ⟨j, rfl⟩ := Int.eq_ofNat_of_zero_le hi.1
    have hj : j < M.length := by omega
    have HW := Lib.hid ((Below.refl w.heap.size w).alloc (Nat.le_refl _) (.cells #[.slice A n cap, .slice A1 n1 cap1, .slice A2 n2 cap2] 50))
    have HC := Lib.hid (HH.out.below HW.out (Nat.le_refl _))
    obtain ⟨x, hx0⟩ : ∃ x, M[j]? = some x := ⟨M[j]'hj, List.getElem?_eq_getElem hj⟩
    obtain ⟨N, nu⟩ := x
    have HX := Lib.hid hx0
    have hat := atI_yes HC.out (by simp [nullsOf]) (by omega) j hj (if nu then 0 else N) (by simp [valsOf, hx0]) nu (by simp [nullsOf, hx0])
    have HAT := Lib.hid hat
    clear hx0 hat
    have hL := HP.out j hj
    rw [HX.out] at hL
    obtain ⟨ad, rfl, hlt, hcells⟩ := HR.out.2 (by omega)
    obtain ⟨q1, q2⟩ := cellsOf_at hL
    have m1 := hcells _ _ q1
    have m2 := hcells _ _ q2
    clear hcells q1 q2 hL
    go_enter Tryd.func29, Tryd.ntmps29
    go_wp2_with fail
    refine HAT.out.mono ?_
    rintro e w5 ⟨rfl, mm, hw5⟩
    have hb5 := heap_alloc_new w (.cells #[.slice (some ad) n cap, .slice A1 n1 cap1, .slice A2 n2 cap2] 50)
    have HT5 := Lib.hid (show Below w.heap.size w w5 from by rw [hw5]; exact HW.out.trans ((Turn.drewN _ mm).below (fun i _ h => h.elim) (by simp)))
    have c0 : w5.cell? ⟨w.heap.size, 0, none⟩ = some (.slice (some ad) n cap) := by
      rw [hw5]; exact Lib.cell_of_heap hb5 0
    have k1 := (HT5.out.cell (p := ad.add (j * 2)) (by rw [block_of_add]; exact hlt)).trans m1
    have k2 := (HT5.out.cell (p := ad.add (j * 2 + 1)) (by rw [block_of_add]; exact hlt)).trans m2
    have e1 : (0 : Int) ≤ j := by omega
    have e2 : (j : Int) < n := by omega
    have e3 : (j : Int) < M.length := by omega
    rw [← add_of_add] at k2
    change w5.cell? ⟨(ad.add (j * 2)).block, (ad.add (j * 2)).off + 1, none⟩ = _ at k2
    clear hw5 hb5 m1 m2
    cases nu with
    | true =>
      go_wp2_with fail
      go_ret
      exact ⟨rfl, HT5.out⟩
    | false =>
      go_wp2_with fail
      go_ret
      exact ⟨rfl, HT5.out⟩
  · have h0 : ¬ (0 ≤ i ∧ i < M.length) := hi
    have HW := Lib.hid ((Below.refl w.heap.size w).alloc (Nat.le_refl _) (.cells #[.slice A n cap, .slice A1 n1 cap1, .slice A2 n2 cap2] 50))
    have HC := Lib.hid (HH.out.below HW.out (Nat.le_refl _))
    have HAT := Lib.hid (atI_no HC.out i (by omega))
    by_cases hneg : i < 0
    · go_enter Tryd.func29, Tryd.ntmps29
      go_wp2_with fail
      refine HAT.out.mono ?_
      rintro e w5 ⟨rfl, mm, hw5⟩
      have HT5 := Lib.hid (show Below w.heap.size w w5 from by rw [hw5]; exact HW.out.trans ((Turn.drewN _ mm).below (fun i _ h => h.elim) (by simp)))
      clear hw5
      go_wp2_with fail
      go_ret
      exact ⟨rfl, HT5.out⟩
    · have h1 : (M.length : Int) ≤ i := by omega
      go_enter Tryd.func29, Tryd.ntmps29
      go_wp2_with fail
      refine HAT.out.mono ?_
      rintro e w5 ⟨rfl, mm, hw5⟩
      have HT5 := Lib.hid (show Below w.heap.size w w5 from by rw [hw5]; exact HW.out.trans ((Turn.drewN _ mm).below (fun i _ h => h.elim) (by simp)))
      clear hw5
      go_wp2_with fail
      go_ret
      exact ⟨rfl, HT5.out⟩
end Go.Proofs.YtdhnmgndekncpaaDoor
