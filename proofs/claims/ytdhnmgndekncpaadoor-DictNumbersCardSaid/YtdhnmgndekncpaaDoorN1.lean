/- A column of numbers: some of its cells. -/
import Derived.Test.YtdhnmgndekncpaaDoorN0
import Derived.Test.YtdhnmgndekncpaaDoorR0
namespace Go.Proofs.YtdhnmgndekncpaaDoor
open Go Go.RowKit Go.Maps Go.WideMaps

theorem Turn.drewN (w : World) (m : Nat) : Turn (fun _ => False) w (w.drewN m) := ⟨rfl, rfl, rfl, by simp, fun k _ _ => by simp⟩
theorem Col.drewN {C E sz : Nat} {w : World} {B c nl : Nat} {v u : Value} {n : Nat} {vs : List Value} {bs : List Nat} {fs : List Bool} (h : Col C E sz w B c v u n vs bs fs nl) (m : Nat) : Col C E sz (w.drewN m) B c v u n vs bs fs nl :=
  h.turn (Turn.drewN w m) (fun h => h) (fun _ _ h => h) (fun _ _ h => h)

theorem take_more {α : Type} {l : List α} {k : Nat} {y : α} (h : l[k]? = some y) : l.take (k + 1) = l.take k ++ [y] := by
  rw [List.take_add_one, h]; rfl

/-- What a column's cells at some places are. -/
def picked (xs : List Int) (at_ : List Int) : List Value := at_.map fun i => .int .i64 (xs.getD i.toNat 0)
def pickedNull (fs : List Bool) (at_ : List Int) : List Bool := at_.map fun i => fs.getD i.toNat false
def inside (n : Nat) (i : Int) : Prop := 0 ≤ i ∧ i < n
/-- What 'Take' hands back. -/
def TakeIs (xs : List Int) (fs : List Bool) (at_ : List Int) (w : World) (e : Ending) (w' : World) : Prop :=
  Below w.heap.size w w' ∧ (((∀ i ∈ at_, inside xs.length i) ∧ e = .returned (.tuple #[.pointer (some ⟨w.heap.size, 0, none⟩), .int .i64 0]) ∧ ∃ v u bs nl, nl ≤ at_.length ∧ Col 110 2 1 w' w.heap.size w.heap.size v u at_.length (picked xs at_) bs (pickedNull fs at_) nl) ∨
    ((∃ i ∈ at_, ¬ inside xs.length i) ∧ e = .returned (.tuple #[.pointer none, .int .i64 1])))
/-- On the way. -/
def TakeAt (xs : List Int) (fs : List Bool) (at_ : List Int) (z k : Nat) (w wr : World) : Prop :=
  k ≤ at_.length ∧ (∀ i ∈ at_.take k, inside xs.length i) ∧ Below z w wr ∧ ∃ v u bs nl, nl ≤ k ∧ Col 110 2 1 wr z z v u k (picked xs (at_.take k)) bs (pickedNull fs (at_.take k)) nl

set_option maxRecDepth 100000 in
set_option maxHeartbeats 400000 in
theorem takeI_any {w : World} {B c nl : Nat} {v u : Value} {xs : List Int} {bs : List Nat} {fs : List Bool} (h : Col 110 2 1 w B c v u xs.length (xs.map (.int .i64)) bs fs nl) (hl : fs.length = xs.length) (hx : xs.length < 17592186044416)
    (A : Option Addr) (m cap : Nat) (at_ : List Int) (hr : Reads w w.heap.size 1 A m (ints at_)) (hm : m < 17592186044416) :
    Calls Tryd.prog 30 #[.pointer (some ⟨c, 0, none⟩), .slice A m cap] w (TakeIs xs fs at_ w) := by
  have hml : at_.length = m := by have := hr.1; simpa [ints] using this
  have HH := Lib.hid h
  have HL := Lib.hid hl
  have HR := Lib.hid hr
  have HML := Lib.hid hml
  clear h hl hr hml
  go_enter Tryd.func30, Tryd.ntmps30
  go_wp2_with fail
  refine (newI_any w).mono ?_
  rintro e w1 ⟨rfl, hc1, hb1, hs1⟩
  have HC1 := Lib.hid hc1
  have HB1 := Lib.hid hb1
  clear hc1 hb1 hs1
  go_wp2_with fail
  go_loopw [15] (fun i wr => ∃ k : Nat, i = .int .i64 k ∧ TakeAt xs fs at_ w.heap.size k w wr) (fun i _ => m - (intOf i).toNat)
  case atStart => exact ⟨0, rfl, by omega, by simp, HB1.out, _, _, _, 0, Nat.le_refl _, by simpa [picked, pickedNull] using HC1.out⟩
  case round =>
    obtain ⟨k, rfl, hkl, hin, hbz, v2, u2, bs2, nl2, hnl2, hc2⟩ := hrel
    have HIN := Lib.hid hin
    have HBZ := Lib.hid hbz
    have HC2 := Lib.hid hc2
    have hkm : k ≤ m := by rw [← HML.out]; exact hkl
    have hfl : (pickedNull fs (at_.take k)).length = k := by simp [pickedNull]; omega
    have HFL := Lib.hid hfl
    clear hin hbz hc2 hfl hkl
    by_cases hlt : k < m
    · obtain ⟨ad, y, rfl, hy, hcy⟩ := reads_int (HR.out.below HBZ.out) hlt
      have HY := Lib.hid hy
      have e1 : (0 : Int) ≤ k := by omega
      have e2 : (k : Int) < m := by omega
      have HCW := Lib.hid (HH.out.below HBZ.out (Nat.le_refl _))
      clear hy
      by_cases hy0 : 0 ≤ y ∧ y < xs.length
      · obtain ⟨j, rfl⟩ := Int.eq_ofNat_of_zero_le hy0.1
        have hj : j < xs.length := by omega
        have HAT := Lib.hid (atI_yes HCW.out HL.out hx j hj (xs[j]'hj) (by rw [List.getElem?_map, List.getElem?_eq_getElem hj]; rfl) (fs[j]'(by rw [HL.out]; exact hj)) (List.getElem?_eq_getElem _))
        obtain ⟨x, HX⟩ := name_it (xs[j]'hj)
        obtain ⟨f, HF⟩ := name_it (fs[j]'(by rw [HL.out]; exact hj))
        rw [HX.out, HF.out] at HAT
        go_wp2_with fail
        refine HAT.out.mono ?_
        rintro e w5 ⟨rfl, mm, hw5⟩
        have HC5 := Lib.hid (show Col 110 2 1 w5 _ _ v2 u2 k _ bs2 _ nl2 from by rw [hw5]; exact HC2.out.drewN mm)
        have HT5 := Lib.hid (show Turn (fun _ => False) wr w5 from by rw [hw5]; exact Turn.drewN wr mm)
        clear hw5
        have HPUT := Lib.hid (put_any HC5.out HFL.out (by omega) hnl2 x f)
        go_wp2_with fail
        refine HPUT.out.mono ?_
        rintro e w6 ⟨rfl, ⟨v6, u6, bs6, hc6, _, _⟩, ht6⟩
        have HC6 := Lib.hid hc6
        have HT6 := Lib.hid ht6
        have HZ := Lib.hid (show w.heap.size ≤ wr.heap.size from HBZ.out.size)
        clear hc6 ht6
        go_wp2_with fail
        go_roundw
        case rel =>
          refine ⟨k + 1, by go_num, by rw [HML.out]; exact hlt, ?_, ?_, v6, u6, bs6, nl2 + cond f 1 0, ?_, ?_⟩
          · rw [take_more HY.out]
            intro i hi
            rcases List.mem_append.1 hi with hi | hi
            · exact HIN.out i hi
            · rw [List.mem_singleton.1 hi]; exact ⟨hy0.1, hy0.2⟩
          · have hz := HZ.out
            have hz5 := HT5.out.size
            exact (HBZ.out.trans (HT5.out.below (fun i _ h => h.elim) hz)).trans (HT6.out.below (fun i _ h => (SC_ge HC5.out i h).1) (by omega))
          · cases f <;> simp <;> omega
          · rw [take_more HY.out]
            have h1 : picked xs (at_.take k ++ [(j : Int)]) = picked xs (at_.take k) ++ [.int .i64 x] := by
              unfold picked
              rw [List.map_append]
              simp [List.getD_eq_getElem?_getD, List.getElem?_eq_getElem hj, HX.out]
            have h2 : pickedNull fs (at_.take k ++ [(j : Int)]) = pickedNull fs (at_.take k) ++ [f] := by
              unfold pickedNull
              rw [List.map_append]
              simp [List.getD_eq_getElem?_getD, List.getElem?_eq_getElem (show j < fs.length by rw [HL.out]; exact hj), HF.out]
            rw [h1, h2]
            exact HC6.out
        case measure => simp [intOf]; omega
      · have HAT := Lib.hid (atI_no HCW.out y (by omega))
        go_wp2_with fail
        refine HAT.out.mono ?_
        rintro e w5 ⟨rfl, mm, hw5⟩
        have HT5 := Lib.hid (show Turn (fun _ => False) wr w5 from by rw [hw5]; exact Turn.drewN wr mm)
        clear hw5
        go_wp2_with fail
        go_ret2
        have hz : w.heap.size ≤ wr.heap.size := HBZ.out.size
        exact ⟨HBZ.out.trans (HT5.out.below (fun i _ h => h.elim) hz), .inr ⟨⟨y, List.mem_of_getElem? HY.out, hy0⟩, rfl⟩⟩
    · have hke : k = m := by omega
      subst hke
      go_wp2_with fail
      go_ret2
      have htk : at_.take k = at_ := List.take_of_length_le (by rw [HML.out]; exact Nat.le_refl _)
      have h1 := HIN.out
      have h2 := HC2.out
      rw [htk] at h1 h2
      exact ⟨HBZ.out, .inl ⟨h1, rfl, v2, u2, bs2, nl2, by rw [HML.out]; exact hnl2, by rw [HML.out]; exact h2⟩⟩
end Go.Proofs.YtdhnmgndekncpaaDoor
