/- A column of pairs: some of its cells. -/
import Derived.Test.YtdhnmgndekncpaaDoorP1
namespace Go.Proofs.YtdhnmgndekncpaaDoor
open Go Go.RowKit Go.Maps Go.WideMaps

def pairCells (xs : List (Int × ByteArray)) : List Value := xs.flatMap fun p => [.int .i64 p.1, .string p.2]
theorem pairCells_at {L : List (Int × ByteArray)} {j : Nat} {c : Int × ByteArray} (h : L[j]? = some c) : (pairCells L)[j * 2]? = some (.int .i64 c.1) ∧ (pairCells L)[j * 2 + 1]? = some (.string c.2) := by
  induction L generalizing j with
  | nil => simp at h
  | cons a r ih =>
    cases j with
    | zero => simp at h; subst h; simp [pairCells]
    | succ j =>
      have := ih (j := j) (by simpa using h)
      unfold pairCells at this ⊢
      rw [List.flatMap_cons, show (j + 1) * 2 = j * 2 + 2 by omega]
      simpa using this
theorem pairCells_snoc (xs : List (Int × ByteArray)) (x : Int) (y : ByteArray) : pairCells (xs ++ [(x, y)]) = pairCells xs ++ [.int .i64 x, .string y] := by unfold pairCells; simp
def pickP (xs : List (Int × ByteArray)) (at_ : List Int) : List (Int × ByteArray) := at_.map fun i => xs.getD i.toNat (0, ⟨#[]⟩)

/-- What 'Take' hands back where all places are places of the column. -/
def TakePIs (xs : List (Int × ByteArray)) (fs : List Bool) (at_ : List Int) (w : World) (e : Ending) (w' : World) : Prop :=
  Below w.heap.size w w' ∧ e = .returned (.tuple #[.pointer (some ⟨w.heap.size, 0, none⟩), .int .i64 0]) ∧ ∃ v u bs, Col 117 68 2 w' w.heap.size w.heap.size v u at_.length (pairCells (pickP xs at_)) bs (pickedNull fs at_) ((pickedNull fs at_).count true)
def TakePAt (xs : List (Int × ByteArray)) (fs : List Bool) (at_ : List Int) (z k : Nat) (w wr : World) : Prop :=
  k ≤ at_.length ∧ Below z w wr ∧ ∃ v u bs, Col 117 68 2 wr z z v u k (pairCells (pickP xs (at_.take k))) bs (pickedNull fs (at_.take k)) ((pickedNull fs (at_.take k)).count true)

set_option maxRecDepth 100000 in
set_option maxHeartbeats 400000 in
theorem takeP_any {w : World} {B c nl : Nat} {v u : Value} {xs : List (Int × ByteArray)} {bs : List Nat} {fs : List Bool} (h : Col 117 68 2 w B c v u xs.length (pairCells xs) bs fs nl) (hl : fs.length = xs.length) (hx : xs.length < 4398046511104)
    (A : Option Addr) (m cap : Nat) (at_ : List Int) (hr : Reads w w.heap.size 1 A m (ints at_)) (hm : m < 4398046511104) (hin : ∀ i ∈ at_, inside xs.length i) :
    Calls Tryd.prog 38 #[.pointer (some ⟨c, 0, none⟩), .slice A m cap] w (TakePIs xs fs at_ w) := by
  have hml : at_.length = m := by have := hr.1; simpa [ints] using this
  have HH := Lib.hid h
  have HL := Lib.hid hl
  have HR := Lib.hid hr
  have HML := Lib.hid hml
  have HIN := Lib.hid hin
  clear h hl hr hml hin
  go_enter Tryd.func38, Tryd.ntmps38
  go_wp2_with fail
  refine (newP_any w).mono ?_
  rintro e w1 ⟨rfl, hc1, hb1, hs1⟩
  have HC1 := Lib.hid hc1
  have HB1 := Lib.hid hb1
  clear hc1 hb1 hs1
  go_wp2_with fail
  go_loopw [15] (fun i wr => ∃ k : Nat, i = .int .i64 k ∧ TakePAt xs fs at_ w.heap.size k w wr) (fun i _ => m - (intOf i).toNat)
  case atStart => exact ⟨0, rfl, by omega, HB1.out, _, _, _, by simpa [pickP, pairCells, pickedNull] using HC1.out⟩
  case round =>
    obtain ⟨k, rfl, hkl, hbz, v2, u2, bs2, hc2⟩ := hrel
    have HBZ := Lib.hid hbz
    have HC2 := Lib.hid hc2
    have hkm : k ≤ m := by rw [← HML.out]; exact hkl
    have hfl : (pickedNull fs (at_.take k)).length = k := by simp [pickedNull]; omega
    have hct : (pickedNull fs (at_.take k)).count true ≤ k := by have := List.count_le_length (a := true) (l := pickedNull fs (at_.take k)); omega
    have HFL := Lib.hid hfl
    clear hbz hc2 hfl hkl
    by_cases hlt : k < m
    · obtain ⟨ad, y, rfl, hy, hcy⟩ := reads_int (HR.out.below HBZ.out) hlt
      have hyin := HIN.out y (List.mem_of_getElem? hy)
      obtain ⟨j, rfl⟩ := Int.eq_ofNat_of_zero_le hyin.1
      have hj : j < xs.length := by have := hyin.2; omega
      have hjf : j < fs.length := by rw [HL.out]; exact hj
      have HY := Lib.hid hy
      have e1 : (0 : Int) ≤ k := by omega
      have e2 : (k : Int) < m := by omega
      have HCW := Lib.hid (HH.out.below HBZ.out (Nat.le_refl _))
      have hxj : xs[j]? = some (xs[j]'hj) := List.getElem?_eq_getElem hj
      obtain ⟨q1, q2⟩ := pairCells_at hxj
      have hat := atP_yes HCW.out HL.out hx j hj _ _ q1 q2 (fs[j]'hjf) (List.getElem?_eq_getElem _)
      have hgx : xs.getD ((j : Int)).toNat (0, ⟨#[]⟩) = ((xs[j]'hj).1, (xs[j]'hj).2) := by simp [List.getD_eq_getElem?_getD, hxj]
      have hgf : fs.getD ((j : Int)).toNat false = fs[j]'hjf := by simp [List.getD_eq_getElem?_getD, List.getElem?_eq_getElem hjf]
      obtain ⟨x, HX⟩ := name_it (xs[j]'hj).1
      obtain ⟨s, HS⟩ := name_it (xs[j]'hj).2
      obtain ⟨f, HF⟩ := name_it (fs[j]'hjf)
      rw [HX.out, HS.out, HF.out] at hat
      rw [HX.out, HS.out] at hgx
      rw [HF.out] at hgf
      have HAT := Lib.hid hat
      have HGX := Lib.hid hgx
      have HGF := Lib.hid hgf
      clear hy hyin q1 q2 hxj hat hgx hgf
      go_wp2_with fail
      refine HAT.out.mono ?_
      rintro e w5 ⟨rfl, hb5⟩
      have HC5 := Lib.hid (HC2.out.below hb5 (Nat.le_refl _))
      have HB5 := Lib.hid hb5
      have HB6 := Lib.hid ((Below.refl w5.heap.size w5).alloc (Nat.le_refl _) (.cells #[.int .i64 x, .string s] 68))
      have HC6 := Lib.hid (HC5.out.below HB6.out (Nat.le_refl _))
      have HP := Lib.hid (putP0_any HC6.out HFL.out (by omega) hct x s f)
      clear hb5
      go_wp2_with fail
      refine HP.out.mono ?_
      rintro e w7 ⟨rfl, ⟨v7, u7, bs7, hc7, _, _⟩, ht7⟩
      have HC7 := Lib.hid hc7
      have HT7 := Lib.hid ht7
      have HZ := Lib.hid (show w.heap.size ≤ wr.heap.size from HBZ.out.size)
      clear hc7 ht7
      go_wp2_with fail
      go_roundw
      case rel =>
        refine ⟨k + 1, by go_num, by rw [HML.out]; exact hlt, ?_, v7, u7, bs7, ?_⟩
        · have hz := HZ.out
          have hz5 := HB5.out.size
          have hz6 := HB6.out.size
          exact ((HBZ.out.trans (HB5.out.mono hz)).trans (HB6.out.mono (by omega))).trans (HT7.out.below (fun i _ h => (SC_ge HC6.out i h).1) (by omega))
        · rw [take_more HY.out]
          have h1 : pickP xs (at_.take k ++ [(j : Int)]) = pickP xs (at_.take k) ++ [(x, s)] := by
            unfold pickP
            rw [List.map_append, List.map_singleton, HGX.out]
          have h2 : pickedNull fs (at_.take k ++ [(j : Int)]) = pickedNull fs (at_.take k) ++ [f] := by
            unfold pickedNull
            rw [List.map_append, List.map_singleton, HGF.out]
          have h3 : (pickedNull fs (at_.take k) ++ [f]).count true = (pickedNull fs (at_.take k)).count true + cond f 1 0 := by
            rw [List.count_append]
            cases f <;> rfl
          rw [h1, h2, h3, pairCells_snoc]
          exact HC7.out
      case measure => simp [intOf]; omega
    · have hke : k = m := by omega
      subst hke
      go_wp2_with fail
      go_ret2
      have htk : at_.take k = at_ := List.take_of_length_le (by rw [HML.out]; exact Nat.le_refl _)
      have h2 := HC2.out
      rw [htk] at h2
      exact ⟨HBZ.out, rfl, v2, u2, bs2, by rw [HML.out]; exact h2⟩
end Go.Proofs.YtdhnmgndekncpaaDoor
