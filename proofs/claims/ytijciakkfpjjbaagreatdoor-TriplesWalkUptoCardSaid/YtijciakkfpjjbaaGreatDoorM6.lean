/- Two numbers held against each other by the program: printed by gen_WZ.py. -/
import Derived.Test.YtijciakkfpjjbaaGreatDoorM5
import Derived.ChangeKeysEq
import Derived.Laws.StructEq
namespace Go.Proofs.YtijciakkfpjjbaaGreatDoor
open Go Go.RowKit

theorem cellsN_at (n : Bool) (f : Nat → Nat) {i : Nat} (h : i < 16) : (cellsN n f)[i + 1]? = some (.int .u64 (f i : Int)) := by
 unfold cellsN
 rw [Array.getElem?_append_right (by simp)]
 exact cellsU_at f h
theorem cellsN_zero (n : Bool) (f : Nat → Nat) : (cellsN n f)[0]? = some (.bool n) := by
 unfold cellsN
 rw [Array.getElem?_append_left (by simp)]
 rfl
theorem num_wat {w : World} {b : Nat} {n : Bool} {f : Nat → Nat} (h : w.heap[b]? = some (numB (cellsN n f))) : WAt w b 1 f := fun i hi => by
 rw [Nat.add_comm 1 i]
 exact (cell_of_row _ _ _ _ _ _ h).trans (cellsN_at n f hi)
theorem num_neg {w : World} {b : Nat} {n : Bool} {f : Nat → Nat} (h : w.heap[b]? = some (numB (cellsN n f))) : w.cell? ⟨b, 0, none⟩ = some (.bool n) :=
 (cell_of_row _ _ _ _ _ _ h).trans (cellsN_zero n f)
/-- The words of a number, loaded. -/
theorem wat_range {w : World} {b o : Nat} {f : Nat → Nat} (h : WAt w b o f) : w.rangeAt b o (cellsU f).toList := fun j v hv => by
 rw [Array.getElem?_toList] at hv
 have hj : j < 16 := by
  obtain ⟨hj, _⟩ := Array.getElem?_eq_some_iff.1 hv
  rwa [cellsU_size] at hj
 rw [cellsU_at f hj] at hv
 injection hv with hv
 rw [h j hj, hv]
/-- A number's cells, its words turned. -/
theorem num_range {w : World} {b : Nat} {n : Bool} {f : Nat → Nat} (h0 : w.cell? ⟨b, 0, none⟩ = some (.bool n)) (h : WAt w b 1 f) : w.rangeAt b 0 (cellsN n f).toList := fun j v hv => by
 rw [Nat.zero_add]
 rw [Array.getElem?_toList] at hv
 cases j with
 | zero => rw [cellsN_zero] at hv; rw [h0, hv]
 | succ j =>
  have hj : j < 16 := by
   obtain ⟨hj, _⟩ := Array.getElem?_eq_some_iff.1 hv
   rw [cellsN_size] at hj
   omega
  rw [cellsN_at n f hj] at hv
  rw [Nat.add_comm j 1, h j hj, hv]
theorem no_carry {x y c B : Nat} (h : x + c * B = y) (hlt : y < B) : x = y := by
 rcases Nat.eq_zero_or_pos c with h0 | h0
 ·rw [h0, Nat.zero_mul] at h; exact h
 ·have h2 : 1 * B ≤ c * B := Nat.mul_le_mul_right _ h0
  omega
/-- The greater amount ahead. -/
def PlusM (w : World) (V : Int) (z : Nat) (wx : World) : Prop := ∃ (na nb : Bool) (fa fb : Nat → Nat), wx.heap[z]? = some (numB (cellsN na fa)) ∧ wx.heap[z + 1]? = some (numB (cellsN nb fb)) ∧ wx.heap[z + 1 + 1]? = some (numB zeroN) ∧ Below w.heap.size w wx ∧
 pv fb 16 ≤ pv fa 16 ∧ (∀ i, i < 16 → fa i < bW) ∧ (∀ i, i < 16 → fb i < bW) ∧ sgV na (pv fa 16) + sgV nb (pv fb 16) = V ∧ na ≠ nb
theorem sgV_add (n : Bool) (x y : Nat) : sgV n (x + y) = sgV n x + sgV n y := by
 cases n <;> simp [sgV] <;> omega
theorem sgV_sub {na nb : Bool} {x y : Nat} (h : na ≠ nb) (hle : y ≤ x) : sgV na (x - y) = sgV na x + sgV nb y := by
 cases na <;> cases nb <;> first | exact absurd rfl h | (simp [sgV]; omega)
def PlusIs (V : Int) (w : World) (e : Ending) (w' : World) : Prop := ∃ (ng : Bool) (h : Nat → Nat), e = .returned (.agg (cellsN ng h)) ∧ Below w.heap.size w w' ∧ (∀ i, i < 16 → h i < bW) ∧ sgV ng (pv h 16) = V
set_option maxRecDepth 100000 in
set_option maxHeartbeats 8000000 in
theorem plus_any (n1 n2 : Bool) (f g : Nat → Nat) (hf : ∀ i, i < 16 → f i < bW) (hg : ∀ i, i < 16 → g i < bW) (hsum : pv f 16 + pv g 16 < bW ^ 16) (w : World) :
    Calls Tryz.prog 171 #[.agg (cellsN n1 f), .agg (cellsN n2 g)] w (PlusIs (sgV n1 (pv f 16) + sgV n2 (pv g 16)) w) := by
 have HF := Lib.hid hf
 have HG := Lib.hid hg
 have HSUM := Lib.hid hsum
 obtain ⟨z, Hz⟩ := name_itV w.heap.size
 obtain ⟨c1, Hc1⟩ := nameN n1 f
 obtain ⟨c2, Hc2⟩ := nameN n2 g
 obtain ⟨w1, HW1⟩ := name_itV (((w.alloc (.cells c1 202)).alloc (.cells c2 202)).alloc (.cells #[.bool false, .int .u64 0, .int .u64 0, .int .u64 0, .int .u64 0, .int .u64 0, .int .u64 0, .int .u64 0, .int .u64 0, .int .u64 0, .int .u64 0, .int .u64 0, .int .u64 0, .int .u64 0, .int .u64 0, .int .u64 0, .int .u64 0] 202))
 have HB1 := Lib.hid (show Below w.heap.size w w1 from by rw [← HW1.out]; exact (two_new w _ _).alloc (by simp; omega) _)
 have HX1 := Lib.hid (show w1.heap[z]? = some (numB (cellsN n1 f)) from by
  rw [← HW1.out, ← Hz.out, Hc1.out, Below.heap_alloc _ _ _ (by simp; omega)]
  exact heap_alloc2_old w _ _)
 have HY1 := Lib.hid (show w1.heap[z + 1]? = some (numB (cellsN n2 g)) from by
  rw [← HW1.out, ← Hz.out, Hc2.out, Below.heap_alloc _ _ _ (by simp)]
  exact heap_alloc2_new w _ _)
 have HR1 := Lib.hid (show w1.heap[z + 2]? = some (numB zeroN) from by
  rw [← HW1.out, ← Hz.out]
  have := heap_alloc_new ((w.alloc (.cells c1 202)).alloc (.cells c2 202)) (.cells zeroN 202)
  simp only [World.size_alloc] at this
  exact this)
 have x0 : w1.cell? ⟨z, 0, none⟩ = some (.bool n1) := num_neg HX1.out
 have y0 : w1.cell? ⟨z + 1, 0, none⟩ = some (.bool n2) := num_neg HY1.out
 clear hf hg hsum
 obtain ⟨V, HVV⟩ := name_itV (sgV n1 (pv f 16) + sgV n2 (pv g 16))
 rw [Hc1.out, Hc2.out, HVV.out]
 go_enter Tryz.func171, Tryz.ntmps171
 go_upto_region 1 with fail
 rw [HW1.out, Hz.out]
 clear HW1
 by_cases hnn : n1 = n2
 ·subst hnn
  have t1 : (n1 == n1) = true := beq_self_eq_true _
  have hadd := Lib.hid (wadd_any z 1 f g w1 HF.out HG.out (num_wat HX1.out) (fun j => frozen_of_row _ _ _ _ _ HX1.out) (blk_lt HX1.out))
  have HRU := Lib.hid (wat_range (num_wat HY1.out))
  obtain ⟨u2, Hu2⟩ := nameU g
  have HU2 := Lib.hid (show (Tryz.prog.info? 200).map (·.size) = some u2.size from by rw [← Hu2.out, cellsU_size]; kernel_rfl)
  rw [Hu2.out] at hadd HRU
  go_wp2_with (first
   | ((with_reducible refine at_dst (some 12) ?_); refine ld_arm rfl 200 _ rfl (z + 1) 1 rfl u2 _ (HRU.out) Tryz.underlying200 rfl HU2.out ?_))
  refine hadd.out.mono ?_
  rintro e w3 ⟨rfl, h, hh, hb, ⟨c, hc⟩, ht3, hk3⟩
  have HH3 := Lib.hid hh
  have HHB := Lib.hid hb
  have HV := Lib.hid (no_carry hc HSUM.out)
  have HN3 := Lib.hid ((hk3 0 (.inl (by decide))).trans (num_neg HX1.out))
  have HR3 := Lib.hid (show w3.heap[z + 1 + 1]? = some (numB zeroN) from ht3.heap HR1.out (show ¬ z + 1 + 1 = z by omega))
  have HB3 := Lib.hid (ht3.below (B := w.heap.size) (fun b _ h => by have h : b = z := h; have := Hz.out; omega) HB1.out.size)
  clear hh hb hc ht3 hk3 x0 y0
  obtain ⟨d, Hd⟩ := nameN n1 h
  have HRD := Lib.hid (num_range HN3.out HH3.out)
  have HD1 := Lib.hid (show d.size = zeroN.size from by rw [← Hd.out, cellsN_size]; rfl)
  have HD2 := Lib.hid (show (Tryz.prog.info? 202).map (·.size) = some d.size from by rw [← Hd.out, cellsN_size]; kernel_rfl)
  have HD3 := Lib.hid (show d.all (·.oneCell') = true from by rw [← Hd.out]; exact cellsN_one _ _)
  rw [Hd.out] at HRD
  go_wp2_with (first
   | ((with_reducible refine at_dst (some 14) ?_); refine ld_arm rfl 202 _ rfl z 0 rfl d _ (HRD.out) Tryz.underlying202 rfl HD2.out ?_)
   | ((with_reducible refine at_st 4 ?_); refine st_row rfl 202 _ _ rfl (z + 1 + 1) zeroN d 202 rfl rfl HR3.out HD1.out HD2.out HD3.out ?_; intro w4 hg4 ht4))
  refine bodyPost_ret (v := .agg d) (results_cell_row (p := 4) (ty := 202) (by kernel_rfl) _ _ (z + 1 + 1) 202 d (0, 0) _ rfl hg4 Tryz.underlying202 rfl HD2.out) rfl ⟨n1, h, by rw [Hd.out], ?_, HHB.out, ?_⟩
  ·exact HB1.out.trans (HB3.out.trans (ht4.below (fun b _ h => by have h : b = z + 1 + 1 := h; have := Hz.out; omega) (Nat.le_trans HB1.out.size HB3.out.size)))
  ·rw [HV.out, ← HVV.out]
   exact sgV_add _ _ _
 ·have t1 : (n1 == n2) = false := beq_eq_false_iff_ne.2 hnn
  have HNN := Lib.hid hnn
  have hcm := Lib.hid (wcmp_any f g w1 HF.out HG.out)
  have HRU := Lib.hid (wat_range (num_wat HX1.out))
  have HRV := Lib.hid (wat_range (num_wat HY1.out))
  have HL1 := Lib.hid (range_row HX1.out)
  have HL2 := Lib.hid (range_row HY1.out)
  obtain ⟨u1, Hu1⟩ := nameU f
  obtain ⟨u2, Hu2⟩ := nameU g
  have HU1 := Lib.hid (show (Tryz.prog.info? 200).map (·.size) = some u1.size from by rw [← Hu1.out, cellsU_size]; kernel_rfl)
  have HU2 := Lib.hid (show (Tryz.prog.info? 200).map (·.size) = some u2.size from by rw [← Hu2.out, cellsU_size]; kernel_rfl)
  have HC1 := Lib.hid (show (Tryz.prog.info? 202).map (·.size) = some c1.size from by rw [← Hc1.out, cellsN_size]; kernel_rfl)
  have HC2 := Lib.hid (show (Tryz.prog.info? 202).map (·.size) = some c2.size from by rw [← Hc2.out, cellsN_size]; kernel_rfl)
  have HO1 := Lib.hid (show c1.all (·.oneCell') = true from by rw [← Hc1.out]; exact cellsN_one _ _)
  have HO2 := Lib.hid (show c2.all (·.oneCell') = true from by rw [← Hc2.out]; exact cellsN_one _ _)
  have HEQ := Lib.hid (show c2.size = c1.size from by rw [← Hc1.out, ← Hc2.out, cellsN_size, cellsN_size])
  rw [Hu1.out] at hcm HRU
  rw [Hu2.out] at hcm HRV
  obtain ⟨r, Hr⟩ := name_itV (cmpN (pv f 16) (pv g 16))
  rw [Hr.out] at hcm
  clear hnn
  go_wp2_with (first
   | ((with_reducible refine at_dst (some 16) ?_); refine ld_arm rfl 200 _ rfl z 1 rfl u1 _ (HRU.out) Tryz.underlying200 rfl HU1.out ?_)
   | ((with_reducible refine at_dst (some 18) ?_); refine ld_arm rfl 200 _ rfl (z + 1) 1 rfl u2 _ (HRV.out) Tryz.underlying200 rfl HU2.out ?_))
  refine hcm.out.mono ?_
  rintro e w2 ⟨rfl, hb2⟩
  have HX2 := Lib.hid ((hb2.block z (blk_lt HX1.out)).trans HX1.out)
  have HY2 := Lib.hid ((hb2.block (z + 1) (blk_lt HY1.out)).trans HY1.out)
  have HR2 := Lib.hid (show w2.heap[z + 1 + 1]? = some (numB zeroN) from (hb2.block (z + 1 + 1) (blk_lt HR1.out)).trans HR1.out)
  have HB2 := Lib.hid (HB1.out.trans (hb2.mono HB1.out.size))
  clear hb2 x0 y0
  go_upto_if 20 with fail
  go_cut [] (fun wx => PlusM w V z wx)
  case first =>
   by_cases hlt : pv f 16 < pv g 16
   ·have g0 : r < 0 := by rw [← Hr.out]; unfold cmpN; rw [if_pos hlt]; decide
    have HLT := Lib.hid hlt
    have HL3 := Lib.hid (range_row HX2.out)
    have HL4 := Lib.hid (range_row HY2.out)
    have HX3 := Lib.hid HX2.out
    have HY3 := Lib.hid HY2.out
    rw [Hc1.out] at HX3 HL3
    rw [Hc2.out] at HY3 HL4
    clear hlt
    go_wp2_with (first
     | ((with_reducible refine at_dst (some 21) ?_); refine ld_arm rfl 202 _ rfl (z + 1) 0 rfl c2 _ (HL4.out) Tryz.underlying202 rfl HC2.out ?_)
     | ((with_reducible refine at_dst (some 22) ?_); refine ld_arm rfl 202 _ rfl z 0 rfl c1 _ (HL3.out) Tryz.underlying202 rfl HC1.out ?_)
     | ((with_reducible refine at_st 2 ?_); refine st_row rfl 202 _ _ rfl z c1 c2 202 rfl rfl HX3.out HEQ.out HC2.out HO2.out ?_; intro w3 hg3 ht3)
     | ((with_reducible refine at_st 3 ?_); refine st_row rfl 202 _ _ rfl (z + 1) c2 c1 202 rfl rfl (ht3.heap HY3.out (show ¬ z + 1 = z by omega)) HEQ.out.symm HC1.out HO1.out ?_; intro w4 hg4 ht4))
    go_meet
    refine ⟨n2, n1, g, f, ?_, ?_, ?_, ?_, Nat.le_of_lt HLT.out, HG.out, HF.out, (Int.add_comm _ _).trans HVV.out, fun h => HNN.out h.symm⟩
    ·rw [Hc2.out]; exact ht4.heap hg3 (show ¬ z = z + 1 by omega)
    ·rw [Hc1.out]; exact hg4
    ·exact ht4.heap (ht3.heap HR2.out (show ¬ z + 1 + 1 = z by omega)) (show ¬ z + 1 + 1 = z + 1 by omega)
    ·exact HB2.out.trans ((ht3.below (B := w.heap.size) (fun b _ h => by have h : b = z := h; have := Hz.out; omega) HB2.out.size).trans (ht4.below (B := w.heap.size) (fun b _ h => by have h : b = z + 1 := h; have := Hz.out; omega) (Nat.le_trans HB2.out.size ht3.size)))
   ·have g0 : ¬ r < 0 := by rw [← Hr.out]; unfold cmpN; rw [if_neg hlt]; split <;> decide
    have HLT := Lib.hid hlt
    clear hlt
    go_wp2_with fail
    go_meet
    exact ⟨n1, n2, f, g, HX2.out, HY2.out, HR2.out, HB2.out, Nat.le_of_not_lt HLT.out, HF.out, HG.out, HVV.out, HNN.out⟩
  case rest =>
   obtain ⟨na, nb, fa, fb, hx, hy, hr, hbl, hle, hfa, hfb, hval, hna⟩ := hcut
   have HBL := Lib.hid hbl
   have HLE := Lib.hid hle
   have HVAL := Lib.hid hval
   have HNA := Lib.hid hna
   have hsub := Lib.hid (wsub_any z 1 fa fb wc hfa hfb (num_wat hx) (fun j => frozen_of_row _ _ _ _ _ hx) (blk_lt hx) hle)
   have HRW := Lib.hid (wat_range (num_wat hy))
   have HNX := Lib.hid (num_neg hx)
   have HRX := Lib.hid hr
   obtain ⟨ub, Hub⟩ := nameU fb
   have HUB := Lib.hid (show (Tryz.prog.info? 200).map (·.size) = some ub.size from by rw [← Hub.out, cellsU_size]; kernel_rfl)
   rw [Hub.out] at hsub HRW
   clear hx hy hr hbl hle hfa hfb hval hna hcm
   go_wp2_with (first
    | ((with_reducible refine at_dst (some 25) ?_); refine ld_arm rfl 200 _ rfl (z + 1) 1 rfl ub _ (HRW.out) Tryz.underlying200 rfl HUB.out ?_))
   refine hsub.out.mono ?_
   rintro e w3 ⟨rfl, h, hh, hb, hp, ht3, hk3⟩
   have HH3 := Lib.hid hh
   have HHB := Lib.hid hb
   have HV := Lib.hid hp
   have HN3 := Lib.hid ((hk3 0 (.inl (by decide))).trans HNX.out)
   have HR3 := Lib.hid (show w3.heap[z + 1 + 1]? = some (numB zeroN) from ht3.heap HRX.out (show ¬ z + 1 + 1 = z by omega))
   have HB3 := Lib.hid (ht3.below (B := w.heap.size) (fun b _ h => by have h : b = z := h; have := Hz.out; omega) HBL.out.size)
   clear hh hb hp ht3 hk3
   obtain ⟨d, Hd⟩ := nameN na h
   have HRD := Lib.hid (num_range HN3.out HH3.out)
   have HD1 := Lib.hid (show d.size = zeroN.size from by rw [← Hd.out, cellsN_size]; rfl)
   have HD2 := Lib.hid (show (Tryz.prog.info? 202).map (·.size) = some d.size from by rw [← Hd.out, cellsN_size]; kernel_rfl)
   have HD3 := Lib.hid (show d.all (·.oneCell') = true from by rw [← Hd.out]; exact cellsN_one _ _)
   rw [Hd.out] at HRD
   go_wp2_with (first
    | ((with_reducible refine at_dst (some 27) ?_); refine ld_arm rfl 202 _ rfl z 0 rfl d _ (HRD.out) Tryz.underlying202 rfl HD2.out ?_)
    | ((with_reducible refine at_st 4 ?_); refine st_row rfl 202 _ _ rfl (z + 1 + 1) zeroN d 202 rfl rfl HR3.out HD1.out HD2.out HD3.out ?_; intro w4 hg4 ht4))
   refine bodyPost_ret (v := .agg d) (results_cell_row (p := 4) (ty := 202) (by kernel_rfl) _ _ (z + 1 + 1) 202 d (0, 0) _ rfl hg4 Tryz.underlying202 rfl HD2.out) rfl ⟨na, h, by rw [Hd.out], ?_, HHB.out, ?_⟩
   ·exact HBL.out.trans (HB3.out.trans (ht4.below (fun b _ h => by have h : b = z + 1 + 1 := h; have := Hz.out; omega) (Nat.le_trans HBL.out.size HB3.out.size)))
   ·rw [← HVAL.out, HV.out]
    exact sgV_sub HNA.out HLE.out
end Go.Proofs.YtijciakkfpjjbaaGreatDoor
namespace Go.Proofs.YtijciakkfpjjbaaGreatDoor
open Go Go.RowKit

def zeroU : Array Value := cellsU (fun _ => 0)
set_option maxRecDepth 100000 in
theorem eq_items (h : Nat → Nat) (W : World) : ∀ is : List Nat, (∀ i, i ∈ is → i < 16) → (Op.eqItems 9999 142 1 (cellsU h) zeroU is).run Tryz.prog W = .ok (is.all fun i => decide (h i = 0)) W := by
 have hu : Tryz.prog.underlying 142 = some (.int .u64) := by kernel_rfl
 intro is
 induction is with
 | nil => intro _; rfl
 | cons i is ih =>
  intro hi
  have h1 := cellsU_at h (hi i (List.mem_cons_self ..))
  have h2 : zeroU[i]? = some (.int .u64 ((0 : Nat) : Int)) := cellsU_at (fun _ => 0) (hi i (List.mem_cons_self ..))
  have h3 := ih (fun j hj => hi j (List.mem_cons_of_mem _ hj))
  obtain ⟨a, ha⟩ := name_itV (cellsU h)
  rw [ha.out] at h1 h3 ⊢
  obtain ⟨b, hb⟩ := name_itV zeroU
  rw [hb.out] at h2 h3 ⊢
  simp only [Op.eqItems, Nat.mul_one, List.all_cons]
  go_simp
  by_cases hz : h i = 0
  ·rw [if_pos hz, decide_eq_true hz, Bool.true_and]
  ·rw [if_neg hz, decide_eq_false hz, Bool.false_and]
theorem pv_zero {h : Nat → Nat} : ∀ n : Nat, pv h n = 0 ↔ ∀ i, i < n → h i = 0 := by
 intro n
 induction n with
 | zero => exact ⟨fun _ i hi => absurd hi (Nat.not_lt_zero _), fun _ => rfl⟩
 | succ n ih =>
  rw [pv, Nat.add_eq_zero_iff, ih, Nat.mul_eq_zero]
  have hp : bW ^ n ≠ 0 := Nat.pos_iff_ne_zero.1 (Nat.pow_pos (by decide))
  constructor
  ·rintro ⟨h1, h2⟩ i hi
   rcases Nat.lt_or_ge i n with h3 | h3
   ·exact h1 i h3
   ·have : i = n := by omega
    rw [this]
    rcases h2 with h2 | h2
    ·exact h2
    ·exact absurd h2 hp
  ·intro h1
   exact ⟨fun i hi => h1 i (by omega), .inl (h1 n (by omega))⟩
theorem infoU64 : (Tryz.prog.info? 142).map (fun i => (i.zero, i.size, i.bytes)) = some (some (.int .u64 0), 1, 8) := by kernel_rfl
theorem guardU : Tryz.prog.eqGuardType Tryz.prog.depth 200 = false := by kernel_rfl
/-- Words held against noughts. -/
theorem eq_words (h : Nat → Nat) (W : World) : (binOp .eql 200 (.agg (cellsU h)) (.agg zeroU)).run Tryz.prog W = .ok (.bool (decide (pv h 16 = 0))) W := by
 obtain ⟨i, hi, _⟩ := info_parts infoU64
 have hc : Tryz.prog.cellsOf 142 = 1 := by kernel_rfl
 rw [run_eql_struct, run_equalIn_array W 9999 _ _ Tryz.underlying200 hi, hc, eq_items h W (List.range 16) (fun i hi => List.mem_range.1 hi)]
 have e : ((List.range 16).all fun i => decide (h i = 0)) = decide (pv h 16 = 0) := by
  rw [Bool.eq_iff_iff, decide_eq_true_iff, List.all_eq_true]
  exact ⟨fun h1 => (pv_zero 16).2 fun i hi => of_decide_eq_true (h1 i (List.mem_range.2 hi)), fun h1 i hi => decide_eq_true ((pv_zero 16).1 h1 i (List.mem_range.1 hi))⟩
 rw [e]
 rfl
end Go.Proofs.YtijciakkfpjjbaaGreatDoor
namespace Go.Proofs.YtijciakkfpjjbaaGreatDoor
open Go Go.RowKit

theorem sgV_abs (b : Bool) (n : Nat) : (sgV b n).natAbs = n := by
 cases b
 ·show ((n : Nat) : Int).natAbs = n
  omega
 ·show (-((n : Nat) : Int)).natAbs = n
  omega
theorem decN_bound {s : ByteArray} (h : decB s = true) : (decN s).natAbs < 10 ^ 60 := by
 obtain ⟨neg, a, b, hs⟩ := dec_shape h
 have h1 : (decN s).natAbs = digV (a ++ b) * 10 ^ (20 - b.length) := by
  rw [decN_of hs]
  cases neg
  ·exact sgV_abs false _
  ·exact sgV_abs true _
 rw [h1]
 have h2 := dig_lt (a ++ b) (by rw [List.all_append, hs.da, hs.db]; rfl)
 have h3 : digV (a ++ b) * 10 ^ (20 - b.length) < 10 ^ (a ++ b).length * 10 ^ (20 - b.length) := Nat.mul_lt_mul_of_pos_right h2 (Nat.pow_pos (by decide))
 rw [← Nat.pow_add] at h3
 refine Nat.lt_of_lt_of_le h3 (Nat.pow_le_pow_right (by decide) ?_)
 rw [List.length_append]
 have := hs.la
 have := hs.lb
 omega
theorem num_lt {s : ByteArray} {f : Nat → Nat} (h : decB s = true) (hn : NumIs s f) : pv f 16 < 10 ^ 60 := by
 have h1 := decN_bound h
 rw [hn.2, sgV_abs] at h1
 exact h1
theorem sum_lt {x y : Nat} (h1 : x < 10 ^ 60) (h2 : y < 10 ^ 60) : x + y < bW ^ 16 := by
 have h4 : ∀ x y p q r : Nat, x < p → y < p → q = p * 10 → q ≤ r → x + y < r := fun x y p q r a b c d => by omega
 refine h4 x y (10 ^ 60) (10 ^ 61) _ h1 h2 (Nat.pow_succ ..) ?_
 have h5 : bW ^ 16 = 10 ^ (9 * 16) := (Nat.pow_mul 10 9 16).symm
 rw [h5]
 exact Nat.pow_le_pow_right (by decide) (by decide)
theorem cellsN_neg (n m : Bool) (f : Nat → Nat) : (cellsN n f).setIfInBounds 0 (.bool m) = cellsN m f := by
 apply Array.ext_getElem?
 intro j
 cases j with
 | zero => rw [Array.getElem?_setIfInBounds, if_pos rfl, if_pos (by rw [cellsN_size]; decide), cellsN_zero]
 | succ j =>
  rw [Array.getElem?_setIfInBounds, if_neg (by omega)]
  unfold cellsN
  rw [Array.getElem?_append_right (by simp), Array.getElem?_append_right (by simp)]
  rfl
theorem cmp_abs {s t : ByteArray} {ng : Bool} {p : Nat} (hv : sgV ng p = decN s + -decN t) : cmpD s t = if p = 0 then 0 else if ng = true then -1 else 1 := by
 unfold cmpD
 by_cases h0 : p = 0
 ·rw [if_pos h0]
  have := (sgV_zero (b := ng)).2 h0
  rw [if_neg (by omega), if_neg (by omega)]
 ·rw [if_neg h0]
  cases ng with
  | true =>
   have h3 : sgV true p = -((p : Nat) : Int) := rfl
   rw [if_pos rfl, if_pos (by omega)]
  | false =>
   have h3 : sgV false p = ((p : Nat) : Int) := rfl
   rw [if_neg (by omega), if_pos (by omega)]
   rfl
/-- What Compare tells. -/
theorem cmp_sum {s t : ByteArray} {f g h : Nat → Nat} {ng : Bool} (hf : NumIs s f) (hg : NumIs t g) (hv : sgV ng (pv h 16) = sgV (sgnB s) (pv f 16) + sgV (!sgnB t) (pv g 16)) :
    cmpD s t = if pv h 16 = 0 then 0 else if ng = true then -1 else 1 :=
 cmp_abs (hv.trans (by rw [sgV_not, ← hf.2, ← hg.2]))
def CmpIs (s t : ByteArray) (w : World) (e : Ending) (w' : World) : Prop := e = .returned (.int .i64 (cmpD s t)) ∧ Below w.heap.size w w'
theorem build_words (W : World) : (Instr.build 200 #[]).run Tryz.prog W = .ok (.agg zeroU) W := run_build W _ _ _ (by kernel_rfl)
set_option maxRecDepth 100000 in
set_option maxHeartbeats 8000000 in
theorem compareD_any (s t : ByteArray) (hs : decB s = true) (ht : decB t = true) (w : World) (hg : GlobB w) :
    Calls Tryz.prog 159 #[.string s, .string t] w (CmpIs s t w) := by
 have HBO := Lib.hid (both_any s t hs ht w hg)
 have HST := Lib.hid (And.intro hs ht)
 clear hs ht hg
 go_enter Tryz.func159, Tryz.ntmps159
 go_wp2_with fail
 refine HBO.out.mono ?_
 rintro e w2 ⟨f, g, rfl, hb2, hf, hg⟩
 have HB2 := Lib.hid hb2
 have HF := Lib.hid hf
 have HG := Lib.hid hg
 obtain ⟨n1, Hn1⟩ := name_itV (sgnB s)
 obtain ⟨n2, Hn2⟩ := name_itV (sgnB t)
 have HPL := Lib.hid (fun (W : World) => plus_any n1 (!n2) f g hf.1 hg.1 (sum_lt (num_lt HST.out.1 hf) (num_lt HST.out.2 hg)) W)
 rw [Hn1.out, Hn2.out]
 obtain ⟨c1, Hc1⟩ := nameN n1 f
 obtain ⟨c2, Hc2⟩ := nameN n2 g
 obtain ⟨c3, Hc3⟩ := nameN (!n2) g
 rw [Hc1.out, Hc2.out]
 rw [Hc1.out, Hc3.out] at HPL
 have HI1 := Lib.hid (show (Tryz.prog.info? 202).map (·.size) = some c1.size from by rw [← Hc1.out, cellsN_size]; kernel_rfl)
 have HI2 := Lib.hid (show (Tryz.prog.info? 202).map (·.size) = some c2.size from by rw [← Hc2.out, cellsN_size]; kernel_rfl)
 have HI3 := Lib.hid (show (Tryz.prog.info? 202).map (·.size) = some c3.size from by rw [← Hc3.out, cellsN_size]; kernel_rfl)
 have HO1 := Lib.hid (show c1.all (·.oneCell') = true from by rw [← Hc1.out]; exact cellsN_one _ _)
 have HO2 := Lib.hid (show c2.all (·.oneCell') = true from by rw [← Hc2.out]; exact cellsN_one _ _)
 have HZ1 := Lib.hid (show c1.size = zeroN.size from by rw [← Hc1.out, cellsN_size]; rfl)
 have HZ2 := Lib.hid (show c2.size = zeroN.size from by rw [← Hc2.out, cellsN_size]; rfl)
 have HSN := Lib.hid (show c2.setIfInBounds 0 (.bool (!n2)) = c3 from by rw [← Hc2.out, ← Hc3.out]; exact cellsN_neg _ _ _)
 have HN2 := Lib.hid (show c2[0]? = some (.bool n2) from by rw [← Hc2.out]; exact cellsN_zero _ _)
 obtain ⟨z, Hz⟩ := name_itV w2.heap.size
 obtain ⟨w3, HW3⟩ := name_itV ((w2.alloc (.cells #[.bool false, .int .u64 0, .int .u64 0, .int .u64 0, .int .u64 0, .int .u64 0, .int .u64 0, .int .u64 0, .int .u64 0, .int .u64 0, .int .u64 0, .int .u64 0, .int .u64 0, .int .u64 0, .int .u64 0, .int .u64 0, .int .u64 0] 202)).alloc (.cells #[.bool false, .int .u64 0, .int .u64 0, .int .u64 0, .int .u64 0, .int .u64 0, .int .u64 0, .int .u64 0, .int .u64 0, .int .u64 0, .int .u64 0, .int .u64 0, .int .u64 0, .int .u64 0, .int .u64 0, .int .u64 0, .int .u64 0] 202))
 have HX3 := Lib.hid (show w3.heap[z]? = some (numB zeroN) from by rw [← HW3.out, ← Hz.out]; exact heap_alloc2_old w2 _ _)
 have HY3 := Lib.hid (show w3.heap[z + 1]? = some (numB zeroN) from by rw [← HW3.out, ← Hz.out]; exact heap_alloc2_new w2 _ _)
 have HB3 := Lib.hid (show Below w2.heap.size w2 w3 from by rw [← HW3.out]; exact two_new _ _ _)
 have HWz := Lib.hid (And.intro HW3.out Hz.out)
 clear hb2 hf hg
 go_upto_region 2 with (first
  | ((with_reducible refine at_st 5 ?_); refine st_row rfl 202 _ _ rfl w2.heap.size zeroN c1 202 rfl rfl (by have h := HX3.out; rw [← HWz.out.1, ← HWz.out.2] at h; exact h) HZ1.out HI1.out HO1.out ?_; intro w4 hg4 ht4)
  | ((with_reducible refine at_st 6 ?_); refine st_row rfl 202 _ _ rfl (w2.heap.size + 1) zeroN c2 202 rfl rfl (by have h := HY3.out; rw [← HWz.out.1, ← HWz.out.2] at h; exact ht4.heap h (show ¬ w2.heap.size + 1 = w2.heap.size by omega)) HZ2.out HI2.out HO2.out ?_; intro w5 hg5 ht5))
 rw [HWz.out.2] at hg4 hg5 ht5 ⊢
 rw [HWz.out.1] at ht4
 rw [HWz.out.2] at ht4
 have HX5 := Lib.hid (ht5.heap hg4 (show ¬ z = z + 1 by omega))
 have HY5 := Lib.hid hg5
 have HB5 := Lib.hid (HB2.out.trans ((HB3.out.trans ((ht4.below (B := w2.heap.size) (fun b _ h => by have h : b = z := h; have := Hz.out; omega) HB3.out.size).trans (ht5.below (B := w2.heap.size) (fun b _ h => by have h : b = z + 1 := h; have := Hz.out; omega) (Nat.le_trans HB3.out.size ht4.size)))).mono HB2.out.size))
 clear hg4 hg5 ht4 ht5
 have y0 : w5.cell? ⟨z + 1, 0, none⟩ = some (.bool n2) := (cell_of_row _ _ _ _ _ _ HY5.out).trans HN2.out
 have yf : w5.frozen? ⟨z + 1, 0, none⟩ = false := frozen_of_row _ _ _ _ _ HY5.out
 go_upto_region 5 with fail
 obtain ⟨w6, HW6⟩ := name_itV (w5.setCell ⟨z + 1, 0, none⟩ (.bool (!n2)))
 have HX6 := Lib.hid (show w6.heap[z]? = some (numB c1) from by rw [← HW6.out, heap_setCell_other _ _ _ _ (show z ≠ z + 1 by omega)]; exact HX5.out)
 have HY6 := Lib.hid (show w6.heap[z + 1]? = some (numB c3) from by
  rw [← HW6.out, ← HSN.out]
  exact heap_setCell_same _ _ _ _ _ _ HY5.out)
 have HB6 := Lib.hid (show Below w.heap.size w w6 from by rw [← HW6.out]; exact HB5.out.setCell (by show w.heap.size ≤ z + 1; have := HB2.out.size; have := Hz.out; omega) _)
 have HL1 := Lib.hid (range_row HX6.out)
 have HL2 := Lib.hid (range_row HY6.out)
 rw [HW6.out]
 clear y0 yf
 go_wp2_with (first
  | ((with_reducible refine at_dst (some 22) ?_); refine ld_arm rfl 202 _ rfl z 0 rfl c1 _ (HL1.out) Tryz.underlying202 rfl HI1.out ?_)
  | ((with_reducible refine at_dst (some 23) ?_); refine ld_arm rfl 202 _ rfl (z + 1) 0 rfl c3 _ (HL2.out) Tryz.underlying202 rfl HI3.out ?_))
 refine (HPL.out w6).mono ?_
 rintro e w7 ⟨ng, h, rfl, hb7, hh, hv⟩
 have HCS := Lib.hid (show cmpD s t = if pv h 16 = 0 then 0 else if ng = true then -1 else 1 from cmp_sum HF.out HG.out (by rw [Hn1.out, Hn2.out]; exact hv))
 have HB7 := Lib.hid (HB6.out.trans (hb7.mono HB6.out.size))
 obtain ⟨d, Hd⟩ := nameN ng h
 obtain ⟨u3, Hu3⟩ := nameU h
 obtain ⟨zu, Hzu⟩ : ∃ zu, EqU zu (fun _ => 0) := nameU _
 have HBZ := Lib.hid (fun W : World => (show (Instr.build 200 #[]).run Tryz.prog W = .ok (.agg zu) W from by rw [← Hzu.out]; exact build_words W))
 have hq : ∀ W, (binOp .eql 200 (.agg u3) (.agg zu)).run Tryz.prog W = .ok (.bool (decide (pv h 16 = 0))) W := fun W => by rw [← Hu3.out, ← Hzu.out]; exact eq_words h W
 obtain ⟨p, Hp⟩ := name_itV (pv h 16)
 rw [Hp.out] at hq HCS
 rw [Hd.out]
 have HI4 := Lib.hid (show (Tryz.prog.info? 202).map (·.size) = some d.size from by rw [← Hd.out, cellsN_size]; kernel_rfl)
 have HO4 := Lib.hid (show d.all (·.oneCell') = true from by rw [← Hd.out]; exact cellsN_one _ _)
 have HZ4 := Lib.hid (show d.size = zeroN.size from by rw [← Hd.out, cellsN_size]; rfl)
 have HU4 := Lib.hid (show (Tryz.prog.info? 200).map (·.size) = some u3.size from by rw [← Hu3.out, cellsU_size]; kernel_rfl)
 have HWA := Lib.hid (fun (W : World) (hW : W.heap[w7.heap.size]? = some (numB d)) => (show W.rangeAt w7.heap.size 1 u3.toList ∧ W.cell? ⟨w7.heap.size, 0, none⟩ = some (.bool ng) from by
  rw [← Hd.out] at hW
  rw [← Hu3.out]
  exact ⟨wat_range (num_wat hW), num_neg hW⟩))
 have hgu := guardU
 have HX8 := Lib.hid (show (w7.alloc (.cells #[.bool false, .int .u64 0, .int .u64 0, .int .u64 0, .int .u64 0, .int .u64 0, .int .u64 0, .int .u64 0, .int .u64 0, .int .u64 0, .int .u64 0, .int .u64 0, .int .u64 0, .int .u64 0, .int .u64 0, .int .u64 0, .int .u64 0] 202)).heap[w7.heap.size]? = some (numB zeroN) from heap_alloc_new w7 _)
 clear hb7 hh hv Hp Hd
 go_upto_region 6 with (first
  | ((with_reducible refine at_st 8 ?_); refine st_row rfl 202 _ _ rfl w7.heap.size zeroN d 202 rfl rfl HX8.out HZ4.out HI4.out HO4.out ?_; intro w8 hg8 ht8))
 have HWB := Lib.hid (HWA.out w8 hg8)
 have HB8 := Lib.hid (HB7.out.trans (((Below.refl w7.heap.size w7).alloc (Nat.le_refl _) _ |>.trans (ht8.below (B := w7.heap.size) (fun b _ h => by have h : b = w7.heap.size := h; omega) (by simp))).mono HB7.out.size))
 have n0 : w8.cell? ⟨w7.heap.size, 0, none⟩ = some (.bool ng) := HWB.out.2
 obtain ⟨z8, Hz8⟩ := name_itV w7.heap.size
 rw [Hz8.out] at HWB n0 ⊢
 clear hg8 ht8
 by_cases hp : p = 0
 ·have hr := Lib.hid (show (0 : Int) = cmpD s t from by rw [HCS.out, if_pos hp])
  have hp' : decide (p = 0) = true := decide_eq_true hp
  rw [hp'] at hq
  clear hp hp'
  go_wp2_with (first
   | ((with_reducible refine at_dst (some 27) ?_); refine ld_arm rfl 200 _ rfl z8 1 rfl u3 _ (HWB.out.1) Tryz.underlying200 rfl HU4.out ?_)
   | ((with_reducible refine at_dst (some 28) ?_); refine build_arm rfl 200 _ rfl #[] (by kernel_rfl) (.agg zu) (HBZ.out _) ?_))
  go_ret
  exact ⟨by rw [hr.out]; rfl, HB8.out⟩
 ·have hp' : decide (p = 0) = false := decide_eq_false hp
  rw [hp'] at hq
  have HNP := Lib.hid hp
  clear hp hp'
  cases ng with
  | true =>
   have hr := Lib.hid (show (-1 : Int) = cmpD s t from by rw [HCS.out, if_neg HNP.out, if_pos rfl])
   go_wp2_with (first
    | ((with_reducible refine at_dst (some 27) ?_); refine ld_arm rfl 200 _ rfl z8 1 rfl u3 _ (HWB.out.1) Tryz.underlying200 rfl HU4.out ?_)
    | ((with_reducible refine at_dst (some 28) ?_); refine build_arm rfl 200 _ rfl #[] (by kernel_rfl) (.agg zu) (HBZ.out _) ?_))
   go_ret
   exact ⟨by rw [hr.out]; rfl, HB8.out⟩
  | false =>
   have hr := Lib.hid (show (1 : Int) = cmpD s t from by rw [HCS.out, if_neg HNP.out, if_neg Bool.false_ne_true])
   go_wp2_with (first
    | ((with_reducible refine at_dst (some 27) ?_); refine ld_arm rfl 200 _ rfl z8 1 rfl u3 _ (HWB.out.1) Tryz.underlying200 rfl HU4.out ?_)
    | ((with_reducible refine at_dst (some 28) ?_); refine build_arm rfl 200 _ rfl #[] (by kernel_rfl) (.agg zu) (HBZ.out _) ?_))
   go_ret
   exact ⟨by rw [hr.out]; rfl, HB8.out⟩
end Go.Proofs.YtijciakkfpjjbaaGreatDoor
namespace Go.Proofs.YtijciakkfpjjbaaGreatDoor
open Go Go.RowKit

def CmpNIs (a b : Val) (w : World) (e : Ending) (w' : World) : Prop := e = .returned (.int .i64 (cmpD (exactT a) (exactT b))) ∧ Below w.heap.size w w'
theorem cmpP_22 (a b : Val) (sa sb : Value) (w : World) (ha : a.kind = 2) (hb : b.kind = 2) (fa : FitV a) (fb : FitV b) :
    Calls Tryz.prog 123 #[.agg (cellsV a sa), .agg (cellsV b sb)] w (CmpNIs a b w) := by
 have hc := Lib.hid (fun W : World => cmp64_any a.num b.num W)
 have HV := Lib.hid (show cmpD (exactT a) (exactT b) = cmpI a.num b.num from by unfold exactT; rw [if_pos ha, if_pos hb, cmpD_ints fa.n0 fa.n1 fb.n0 fb.n1]; rfl)
 unfold CmpNIs
 rw [HV.out]
 clear HV fa fb
 obtain ⟨v, Hv⟩ := name_itV (cmpI a.num b.num)
 rw [Hv.out] at hc ⊢
 clear Hv
 cases a with
 | mk k1 b1 n1 t1 x1 l1 =>
 cases b with
 | mk k2 b2 n2 t2 x2 l2 =>
 unfold cellsV
 simp only [Val.kind, Val.truth, Val.num, Val.text, Val.extra] at hc ha hb ⊢
 subst ha
 subst hb
 have HB := Lib.hid (fun o1 o2 : Obj => two_new w o1 o2)
 go_enter Tryz.func123, Tryz.ntmps123
 go_wp2_with fail
 refine (hc.out _).mono ?_
 rintro e w1 ⟨rfl, rfl⟩
 go_wp2_with fail
 go_ret
 exact ⟨rfl, HB.out _ _⟩
set_option maxRecDepth 100000 in
set_option maxHeartbeats 8000000 in
theorem cmpP_23 (a b : Val) (sa sb : Value) (w : World) (ha : a.kind = 2) (hb : b.kind = 3) (fa : FitV a) (fb : FitV b) (hgb : GlobB w) (hgt : GlobT w) :
    Calls Tryz.prog 123 #[.agg (cellsV a sa), .agg (cellsV b sb)] w (CmpNIs a b w) := by
 have hd1 := Lib.hid (fun (W : World) (hW : Below w.heap.size w W) => exact_any a sa fa.n0 fa.n1 fa.ts W (glob_under hgb hW) (globT_under hgt hW))
 have hd2 := Lib.hid (fun (W : World) (hW : Below w.heap.size w W) => exact_any b sb fb.n0 fb.n1 fb.ts W (glob_under hgb hW) (globT_under hgt hW))
 have hcm := Lib.hid (fun (W : World) (hW : Below w.heap.size w W) => compareD_any (exactT a) (exactT b) (decB_exact fa.n0 fa.n1) (decB_exact fb.n0 fb.n1) W (glob_under hgb hW))
 unfold CmpNIs
 unfold CmpIs at hcm
 unfold DecIs at hd1 hd2
 obtain ⟨X1, HX1⟩ := name_itV (exactT a)
 obtain ⟨X2, HX2⟩ := name_itV (exactT b)
 rw [HX1.out] at hd1 hcm ⊢
 rw [HX2.out] at hd2 hcm ⊢
 obtain ⟨c, Hc⟩ := name_itV (cmpD X1 X2)
 rw [Hc.out] at hcm ⊢
 clear Hc HX1 HX2
 have hk1 : (cellsV a sa)[0]? = some (.int .i64 2) := by rw [← ha]; rfl
 have hk2 : (cellsV b sb)[0]? = some (.int .i64 3) := by rw [← hb]; rfl
 obtain ⟨c1, Hc1⟩ := name6 a sa
 obtain ⟨c2, Hc2⟩ := name6 b sb
 rw [Hc1.out] at hd1 hk1 ⊢
 rw [Hc2.out] at hd2 hk2 ⊢
 have Q1 := Lib.hid Hc1.size
 have Q2 := Lib.hid Hc2.size
 obtain ⟨z, Hz⟩ := name_itV w.heap.size
 obtain ⟨w1, HW1⟩ := name_itV ((w.alloc (.cells c1 34)).alloc (.cells c2 34))
 have HB := Lib.hid (show Below w.heap.size w w1 from by rw [← HW1.out]; exact two_new w _ _)
 have HX := Lib.hid (show w1.heap[z]? = some (.cells c1 34 (0, 0)) from by rw [← HW1.out, ← Hz.out]; exact heap_alloc2_old w _ _)
 have HY := Lib.hid (show w1.heap[z + 1]? = some (.cells c2 34 (0, 0)) from by rw [← HW1.out, ← Hz.out]; exact heap_alloc2_new w _ _)
 have p0 : w1.cell? ⟨z, 0, none⟩ = some (.int .i64 2) := (cell_of_row _ _ _ _ _ _ HX.out).trans hk1
 have q0 : w1.cell? ⟨z + 1, 0, none⟩ = some (.int .i64 3) := (cell_of_row _ _ _ _ _ _ HY.out).trans hk2
 clear hk1 hk2 ha hb fa fb hgb hgt
 go_enter Tryz.func123, Tryz.ntmps123
 go_upto_region 1 with fail
 rw [HW1.out, Hz.out]
 clear HW1
 go_upto_region 3 with fail
 have s1 := Lib.hid (show w1.drew.heap[z]? = some (.cells c1 34 (0, 0)) ∧ w1.drew.heap[z + 1]? = some (.cells c2 34 (0, 0)) from ⟨HX.out, HY.out⟩)
 have HBd := Lib.hid (show Below w.heap.size w w1.drew from HB.out.drew)
 refine wp_region_held_drew (S := fun W' => W'.heap[z]? = some (.cells c1 34 (0, 0)) ∧ W'.heap[z + 1]? = some (.cells c2 34 (0, 0))) (by kernel_rfl) s1.out (fun hHeld => ?_)
 refine Boxed.out ?_
 refine take_want 0 18 (.agg c1) (by kernel_rfl) (by rfl) (by kernel_rfl) (by kernel_rfl) (by kernel_rfl) (fun _ _ _ h => h) hHeld (fun w hSw => ?_) (fun hHeld => ?_)
 ·exact val_of (ld_run hSw.1 34 _ Tryz.underlying34 rfl (by rw [Q1.out]; kernel_rfl))
 simp only [Act.put, List.setIfInBounds_toArray, List.set_cons_zero, List.set_cons_succ]
 refine take_want 2 20 (.agg c2) (by kernel_rfl) (by rfl) (by kernel_rfl) (by kernel_rfl) (by kernel_rfl) (fun _ _ _ h => h) hHeld (fun w hSw => ?_) (fun hHeld => ?_)
 ·exact val_of (ld_run hSw.2 34 _ Tryz.underlying34 rfl (by rw [Q2.out]; kernel_rfl))
 simp only [Act.put, List.setIfInBounds_toArray, List.set_cons_zero, List.set_cons_succ]
 refine take_call 1 (by kernel_rfl) (by rfl) (fun K hK => ?_)
 change Oper.wp _ ⟨some 19, _, _, _, _, _⟩ _ _ _ _
 go_simp
 refine (hd1.out w1.drew HBd.out).mono ?_
 rintro e w4 ⟨rfl, hb4⟩
 have HB4 := Lib.hid (show Below w1.heap.size w1 w4 from below_of_dr hb4)
 have HG4 := Lib.hid (HB.out.trans (HB4.out.mono HB.out.size))
 have HS4 := Lib.hid (show w4.heap[z]? = some (.cells c1 34 (0, 0)) ∧ w4.heap[z + 1]? = some (.cells c2 34 (0, 0)) from ⟨(HB4.out.block z (blk_lt HX.out)).trans HX.out, (HB4.out.block (z + 1) (blk_lt HY.out)).trans HY.out⟩)
 clear hb4
 dsimp only
 refine hK.out _ _ HS4.out (fun hHeld => ?_)
 clear hK K
 try simp only [Act.put, List.setIfInBounds_toArray, List.set_cons_zero, List.set_cons_succ]
 refine take_call 3 (by kernel_rfl) (by rfl) (fun K hK => ?_)
 change Oper.wp _ ⟨some 21, _, _, _, _, _⟩ _ _ _ _
 go_simp
 refine (hd2.out w4 HG4.out).mono ?_
 rintro e w5 ⟨rfl, hb5⟩
 have HB5 := Lib.hid (HB4.out.trans (hb5.mono HB4.out.size))
 have HG5 := Lib.hid (HB.out.trans (HB5.out.mono HB.out.size))
 have HS5 := Lib.hid (show w5.heap[z]? = some (.cells c1 34 (0, 0)) ∧ w5.heap[z + 1]? = some (.cells c2 34 (0, 0)) from ⟨(HB5.out.block z (blk_lt HX.out)).trans HX.out, (HB5.out.block (z + 1) (blk_lt HY.out)).trans HY.out⟩)
 clear hb5
 dsimp only
 refine hK.out _ _ HS5.out (fun hHeld => ?_)
 clear hK K
 try simp only [Act.put, List.setIfInBounds_toArray, List.set_cons_zero, List.set_cons_succ]
 refine take_call 4 (by kernel_rfl) (by rfl) (fun K hK => ?_)
 change Oper.wp _ ⟨some 22, _, _, _, _, _⟩ _ _ _ _
 go_simp
 refine (hcm.out w5 HG5.out).mono ?_
 rintro e w6 ⟨rfl, hb6⟩
 have HB6 := Lib.hid (HB5.out.trans (hb6.mono HB5.out.size))
 have HG6 := Lib.hid (HB.out.trans (HB6.out.mono HB.out.size))
 have HS6 := Lib.hid (show w6.heap[z]? = some (.cells c1 34 (0, 0)) ∧ w6.heap[z + 1]? = some (.cells c2 34 (0, 0)) from ⟨(HB6.out.block z (blk_lt HX.out)).trans HX.out, (HB6.out.block (z + 1) (blk_lt HY.out)).trans HY.out⟩)
 clear hb6
 dsimp only
 refine hK.out _ _ HS6.out (fun hHeld => ?_)
 clear hK K
 try simp only [Act.put, List.setIfInBounds_toArray, List.set_cons_zero, List.set_cons_succ]
 refine take_want 5 4 (.int .i64 c) (by kernel_rfl) (by rfl) (by kernel_rfl) (by kernel_rfl) (by kernel_rfl) (fun _ _ _ h => h) hHeld (fun w hSw => ?_) (fun hHeld => ?_)
 ·unfold runsTo
  go_simp
 simp only [Act.put, List.setIfInBounds_toArray, List.set_cons_zero, List.set_cons_succ]
 refine ⟨wpAnyH_done (by kernel_rfl) ?_ _⟩
 clear hHeld
 go_wp2_with fail
 go_ret
 exact ⟨rfl, HG6.out⟩
set_option maxRecDepth 100000 in
set_option maxHeartbeats 8000000 in
theorem cmpP_32 (a b : Val) (sa sb : Value) (w : World) (ha : a.kind = 3) (hb : b.kind = 2) (fa : FitV a) (fb : FitV b) (hgb : GlobB w) (hgt : GlobT w) :
    Calls Tryz.prog 123 #[.agg (cellsV a sa), .agg (cellsV b sb)] w (CmpNIs a b w) := by
 have hd1 := Lib.hid (fun (W : World) (hW : Below w.heap.size w W) => exact_any a sa fa.n0 fa.n1 fa.ts W (glob_under hgb hW) (globT_under hgt hW))
 have hd2 := Lib.hid (fun (W : World) (hW : Below w.heap.size w W) => exact_any b sb fb.n0 fb.n1 fb.ts W (glob_under hgb hW) (globT_under hgt hW))
 have hcm := Lib.hid (fun (W : World) (hW : Below w.heap.size w W) => compareD_any (exactT a) (exactT b) (decB_exact fa.n0 fa.n1) (decB_exact fb.n0 fb.n1) W (glob_under hgb hW))
 unfold CmpNIs
 unfold CmpIs at hcm
 unfold DecIs at hd1 hd2
 obtain ⟨X1, HX1⟩ := name_itV (exactT a)
 obtain ⟨X2, HX2⟩ := name_itV (exactT b)
 rw [HX1.out] at hd1 hcm ⊢
 rw [HX2.out] at hd2 hcm ⊢
 obtain ⟨c, Hc⟩ := name_itV (cmpD X1 X2)
 rw [Hc.out] at hcm ⊢
 clear Hc HX1 HX2
 have hk1 : (cellsV a sa)[0]? = some (.int .i64 3) := by rw [← ha]; rfl
 have hk2 : (cellsV b sb)[0]? = some (.int .i64 2) := by rw [← hb]; rfl
 obtain ⟨c1, Hc1⟩ := name6 a sa
 obtain ⟨c2, Hc2⟩ := name6 b sb
 rw [Hc1.out] at hd1 hk1 ⊢
 rw [Hc2.out] at hd2 hk2 ⊢
 have Q1 := Lib.hid Hc1.size
 have Q2 := Lib.hid Hc2.size
 obtain ⟨z, Hz⟩ := name_itV w.heap.size
 obtain ⟨w1, HW1⟩ := name_itV ((w.alloc (.cells c1 34)).alloc (.cells c2 34))
 have HB := Lib.hid (show Below w.heap.size w w1 from by rw [← HW1.out]; exact two_new w _ _)
 have HX := Lib.hid (show w1.heap[z]? = some (.cells c1 34 (0, 0)) from by rw [← HW1.out, ← Hz.out]; exact heap_alloc2_old w _ _)
 have HY := Lib.hid (show w1.heap[z + 1]? = some (.cells c2 34 (0, 0)) from by rw [← HW1.out, ← Hz.out]; exact heap_alloc2_new w _ _)
 have p0 : w1.cell? ⟨z, 0, none⟩ = some (.int .i64 3) := (cell_of_row _ _ _ _ _ _ HX.out).trans hk1
 have q0 : w1.cell? ⟨z + 1, 0, none⟩ = some (.int .i64 2) := (cell_of_row _ _ _ _ _ _ HY.out).trans hk2
 clear hk1 hk2 ha hb fa fb hgb hgt
 go_enter Tryz.func123, Tryz.ntmps123
 go_upto_region 1 with fail
 rw [HW1.out, Hz.out]
 clear HW1
 go_upto_region 3 with fail
 have s1 := Lib.hid (show w1.drew.heap[z]? = some (.cells c1 34 (0, 0)) ∧ w1.drew.heap[z + 1]? = some (.cells c2 34 (0, 0)) from ⟨HX.out, HY.out⟩)
 have HBd := Lib.hid (show Below w.heap.size w w1.drew from HB.out.drew)
 refine wp_region_held_drew (S := fun W' => W'.heap[z]? = some (.cells c1 34 (0, 0)) ∧ W'.heap[z + 1]? = some (.cells c2 34 (0, 0))) (by kernel_rfl) s1.out (fun hHeld => ?_)
 refine Boxed.out ?_
 refine take_want 0 18 (.agg c1) (by kernel_rfl) (by rfl) (by kernel_rfl) (by kernel_rfl) (by kernel_rfl) (fun _ _ _ h => h) hHeld (fun w hSw => ?_) (fun hHeld => ?_)
 ·exact val_of (ld_run hSw.1 34 _ Tryz.underlying34 rfl (by rw [Q1.out]; kernel_rfl))
 simp only [Act.put, List.setIfInBounds_toArray, List.set_cons_zero, List.set_cons_succ]
 refine take_want 2 20 (.agg c2) (by kernel_rfl) (by rfl) (by kernel_rfl) (by kernel_rfl) (by kernel_rfl) (fun _ _ _ h => h) hHeld (fun w hSw => ?_) (fun hHeld => ?_)
 ·exact val_of (ld_run hSw.2 34 _ Tryz.underlying34 rfl (by rw [Q2.out]; kernel_rfl))
 simp only [Act.put, List.setIfInBounds_toArray, List.set_cons_zero, List.set_cons_succ]
 refine take_call 1 (by kernel_rfl) (by rfl) (fun K hK => ?_)
 change Oper.wp _ ⟨some 19, _, _, _, _, _⟩ _ _ _ _
 go_simp
 refine (hd1.out w1.drew HBd.out).mono ?_
 rintro e w4 ⟨rfl, hb4⟩
 have HB4 := Lib.hid (show Below w1.heap.size w1 w4 from below_of_dr hb4)
 have HG4 := Lib.hid (HB.out.trans (HB4.out.mono HB.out.size))
 have HS4 := Lib.hid (show w4.heap[z]? = some (.cells c1 34 (0, 0)) ∧ w4.heap[z + 1]? = some (.cells c2 34 (0, 0)) from ⟨(HB4.out.block z (blk_lt HX.out)).trans HX.out, (HB4.out.block (z + 1) (blk_lt HY.out)).trans HY.out⟩)
 clear hb4
 dsimp only
 refine hK.out _ _ HS4.out (fun hHeld => ?_)
 clear hK K
 try simp only [Act.put, List.setIfInBounds_toArray, List.set_cons_zero, List.set_cons_succ]
 refine take_call 3 (by kernel_rfl) (by rfl) (fun K hK => ?_)
 change Oper.wp _ ⟨some 21, _, _, _, _, _⟩ _ _ _ _
 go_simp
 refine (hd2.out w4 HG4.out).mono ?_
 rintro e w5 ⟨rfl, hb5⟩
 have HB5 := Lib.hid (HB4.out.trans (hb5.mono HB4.out.size))
 have HG5 := Lib.hid (HB.out.trans (HB5.out.mono HB.out.size))
 have HS5 := Lib.hid (show w5.heap[z]? = some (.cells c1 34 (0, 0)) ∧ w5.heap[z + 1]? = some (.cells c2 34 (0, 0)) from ⟨(HB5.out.block z (blk_lt HX.out)).trans HX.out, (HB5.out.block (z + 1) (blk_lt HY.out)).trans HY.out⟩)
 clear hb5
 dsimp only
 refine hK.out _ _ HS5.out (fun hHeld => ?_)
 clear hK K
 try simp only [Act.put, List.setIfInBounds_toArray, List.set_cons_zero, List.set_cons_succ]
 refine take_call 4 (by kernel_rfl) (by rfl) (fun K hK => ?_)
 change Oper.wp _ ⟨some 22, _, _, _, _, _⟩ _ _ _ _
 go_simp
 refine (hcm.out w5 HG5.out).mono ?_
 rintro e w6 ⟨rfl, hb6⟩
 have HB6 := Lib.hid (HB5.out.trans (hb6.mono HB5.out.size))
 have HG6 := Lib.hid (HB.out.trans (HB6.out.mono HB.out.size))
 have HS6 := Lib.hid (show w6.heap[z]? = some (.cells c1 34 (0, 0)) ∧ w6.heap[z + 1]? = some (.cells c2 34 (0, 0)) from ⟨(HB6.out.block z (blk_lt HX.out)).trans HX.out, (HB6.out.block (z + 1) (blk_lt HY.out)).trans HY.out⟩)
 clear hb6
 dsimp only
 refine hK.out _ _ HS6.out (fun hHeld => ?_)
 clear hK K
 try simp only [Act.put, List.setIfInBounds_toArray, List.set_cons_zero, List.set_cons_succ]
 refine take_want 5 4 (.int .i64 c) (by kernel_rfl) (by rfl) (by kernel_rfl) (by kernel_rfl) (by kernel_rfl) (fun _ _ _ h => h) hHeld (fun w hSw => ?_) (fun hHeld => ?_)
 ·unfold runsTo
  go_simp
 simp only [Act.put, List.setIfInBounds_toArray, List.set_cons_zero, List.set_cons_succ]
 refine ⟨wpAnyH_done (by kernel_rfl) ?_ _⟩
 clear hHeld
 go_wp2_with fail
 go_ret
 exact ⟨rfl, HG6.out⟩
set_option maxRecDepth 100000 in
set_option maxHeartbeats 8000000 in
theorem cmpP_33 (a b : Val) (sa sb : Value) (w : World) (ha : a.kind = 3) (hb : b.kind = 3) (fa : FitV a) (fb : FitV b) (hgb : GlobB w) (hgt : GlobT w) :
    Calls Tryz.prog 123 #[.agg (cellsV a sa), .agg (cellsV b sb)] w (CmpNIs a b w) := by
 have hd1 := Lib.hid (fun (W : World) (hW : Below w.heap.size w W) => exact_any a sa fa.n0 fa.n1 fa.ts W (glob_under hgb hW) (globT_under hgt hW))
 have hd2 := Lib.hid (fun (W : World) (hW : Below w.heap.size w W) => exact_any b sb fb.n0 fb.n1 fb.ts W (glob_under hgb hW) (globT_under hgt hW))
 have hcm := Lib.hid (fun (W : World) (hW : Below w.heap.size w W) => compareD_any (exactT a) (exactT b) (decB_exact fa.n0 fa.n1) (decB_exact fb.n0 fb.n1) W (glob_under hgb hW))
 unfold CmpNIs
 unfold CmpIs at hcm
 unfold DecIs at hd1 hd2
 obtain ⟨X1, HX1⟩ := name_itV (exactT a)
 obtain ⟨X2, HX2⟩ := name_itV (exactT b)
 rw [HX1.out] at hd1 hcm ⊢
 rw [HX2.out] at hd2 hcm ⊢
 obtain ⟨c, Hc⟩ := name_itV (cmpD X1 X2)
 rw [Hc.out] at hcm ⊢
 clear Hc HX1 HX2
 have hk1 : (cellsV a sa)[0]? = some (.int .i64 3) := by rw [← ha]; rfl
 have hk2 : (cellsV b sb)[0]? = some (.int .i64 3) := by rw [← hb]; rfl
 obtain ⟨c1, Hc1⟩ := name6 a sa
 obtain ⟨c2, Hc2⟩ := name6 b sb
 rw [Hc1.out] at hd1 hk1 ⊢
 rw [Hc2.out] at hd2 hk2 ⊢
 have Q1 := Lib.hid Hc1.size
 have Q2 := Lib.hid Hc2.size
 obtain ⟨z, Hz⟩ := name_itV w.heap.size
 obtain ⟨w1, HW1⟩ := name_itV ((w.alloc (.cells c1 34)).alloc (.cells c2 34))
 have HB := Lib.hid (show Below w.heap.size w w1 from by rw [← HW1.out]; exact two_new w _ _)
 have HX := Lib.hid (show w1.heap[z]? = some (.cells c1 34 (0, 0)) from by rw [← HW1.out, ← Hz.out]; exact heap_alloc2_old w _ _)
 have HY := Lib.hid (show w1.heap[z + 1]? = some (.cells c2 34 (0, 0)) from by rw [← HW1.out, ← Hz.out]; exact heap_alloc2_new w _ _)
 have p0 : w1.cell? ⟨z, 0, none⟩ = some (.int .i64 3) := (cell_of_row _ _ _ _ _ _ HX.out).trans hk1
 have q0 : w1.cell? ⟨z + 1, 0, none⟩ = some (.int .i64 3) := (cell_of_row _ _ _ _ _ _ HY.out).trans hk2
 clear hk1 hk2 ha hb fa fb hgb hgt
 go_enter Tryz.func123, Tryz.ntmps123
 go_upto_region 1 with fail
 rw [HW1.out, Hz.out]
 clear HW1
 go_upto_region 3 with fail
 have s1 := Lib.hid (show w1.drew.heap[z]? = some (.cells c1 34 (0, 0)) ∧ w1.drew.heap[z + 1]? = some (.cells c2 34 (0, 0)) from ⟨HX.out, HY.out⟩)
 have HBd := Lib.hid (show Below w.heap.size w w1.drew from HB.out.drew)
 refine wp_region_held_drew (S := fun W' => W'.heap[z]? = some (.cells c1 34 (0, 0)) ∧ W'.heap[z + 1]? = some (.cells c2 34 (0, 0))) (by kernel_rfl) s1.out (fun hHeld => ?_)
 refine Boxed.out ?_
 refine take_want 0 18 (.agg c1) (by kernel_rfl) (by rfl) (by kernel_rfl) (by kernel_rfl) (by kernel_rfl) (fun _ _ _ h => h) hHeld (fun w hSw => ?_) (fun hHeld => ?_)
 ·exact val_of (ld_run hSw.1 34 _ Tryz.underlying34 rfl (by rw [Q1.out]; kernel_rfl))
 simp only [Act.put, List.setIfInBounds_toArray, List.set_cons_zero, List.set_cons_succ]
 refine take_want 2 20 (.agg c2) (by kernel_rfl) (by rfl) (by kernel_rfl) (by kernel_rfl) (by kernel_rfl) (fun _ _ _ h => h) hHeld (fun w hSw => ?_) (fun hHeld => ?_)
 ·exact val_of (ld_run hSw.2 34 _ Tryz.underlying34 rfl (by rw [Q2.out]; kernel_rfl))
 simp only [Act.put, List.setIfInBounds_toArray, List.set_cons_zero, List.set_cons_succ]
 refine take_call 1 (by kernel_rfl) (by rfl) (fun K hK => ?_)
 change Oper.wp _ ⟨some 19, _, _, _, _, _⟩ _ _ _ _
 go_simp
 refine (hd1.out w1.drew HBd.out).mono ?_
 rintro e w4 ⟨rfl, hb4⟩
 have HB4 := Lib.hid (show Below w1.heap.size w1 w4 from below_of_dr hb4)
 have HG4 := Lib.hid (HB.out.trans (HB4.out.mono HB.out.size))
 have HS4 := Lib.hid (show w4.heap[z]? = some (.cells c1 34 (0, 0)) ∧ w4.heap[z + 1]? = some (.cells c2 34 (0, 0)) from ⟨(HB4.out.block z (blk_lt HX.out)).trans HX.out, (HB4.out.block (z + 1) (blk_lt HY.out)).trans HY.out⟩)
 clear hb4
 dsimp only
 refine hK.out _ _ HS4.out (fun hHeld => ?_)
 clear hK K
 try simp only [Act.put, List.setIfInBounds_toArray, List.set_cons_zero, List.set_cons_succ]
 refine take_call 3 (by kernel_rfl) (by rfl) (fun K hK => ?_)
 change Oper.wp _ ⟨some 21, _, _, _, _, _⟩ _ _ _ _
 go_simp
 refine (hd2.out w4 HG4.out).mono ?_
 rintro e w5 ⟨rfl, hb5⟩
 have HB5 := Lib.hid (HB4.out.trans (hb5.mono HB4.out.size))
 have HG5 := Lib.hid (HB.out.trans (HB5.out.mono HB.out.size))
 have HS5 := Lib.hid (show w5.heap[z]? = some (.cells c1 34 (0, 0)) ∧ w5.heap[z + 1]? = some (.cells c2 34 (0, 0)) from ⟨(HB5.out.block z (blk_lt HX.out)).trans HX.out, (HB5.out.block (z + 1) (blk_lt HY.out)).trans HY.out⟩)
 clear hb5
 dsimp only
 refine hK.out _ _ HS5.out (fun hHeld => ?_)
 clear hK K
 try simp only [Act.put, List.setIfInBounds_toArray, List.set_cons_zero, List.set_cons_succ]
 refine take_call 4 (by kernel_rfl) (by rfl) (fun K hK => ?_)
 change Oper.wp _ ⟨some 22, _, _, _, _, _⟩ _ _ _ _
 go_simp
 refine (hcm.out w5 HG5.out).mono ?_
 rintro e w6 ⟨rfl, hb6⟩
 have HB6 := Lib.hid (HB5.out.trans (hb6.mono HB5.out.size))
 have HG6 := Lib.hid (HB.out.trans (HB6.out.mono HB.out.size))
 have HS6 := Lib.hid (show w6.heap[z]? = some (.cells c1 34 (0, 0)) ∧ w6.heap[z + 1]? = some (.cells c2 34 (0, 0)) from ⟨(HB6.out.block z (blk_lt HX.out)).trans HX.out, (HB6.out.block (z + 1) (blk_lt HY.out)).trans HY.out⟩)
 clear hb6
 dsimp only
 refine hK.out _ _ HS6.out (fun hHeld => ?_)
 clear hK K
 try simp only [Act.put, List.setIfInBounds_toArray, List.set_cons_zero, List.set_cons_succ]
 refine take_want 5 4 (.int .i64 c) (by kernel_rfl) (by rfl) (by kernel_rfl) (by kernel_rfl) (by kernel_rfl) (fun _ _ _ h => h) hHeld (fun w hSw => ?_) (fun hHeld => ?_)
 ·unfold runsTo
  go_simp
 simp only [Act.put, List.setIfInBounds_toArray, List.set_cons_zero, List.set_cons_succ]
 refine ⟨wpAnyH_done (by kernel_rfl) ?_ _⟩
 clear hHeld
 go_wp2_with fail
 go_ret
 exact ⟨rfl, HG6.out⟩
/-- Two numbers. -/
theorem cmpP_any (a b : Val) (sa sb : Value) (w : World) (ha : a.kind = 2 ∨ a.kind = 3) (hb : b.kind = 2 ∨ b.kind = 3) (fa : FitV a) (fb : FitV b) (hgb : GlobB w) (hgt : GlobT w) :
    Calls Tryz.prog 123 #[.agg (cellsV a sa), .agg (cellsV b sb)] w (CmpNIs a b w) := by
 rcases ha with ha | ha
 ·rcases hb with hb | hb
  ·exact cmpP_22 a b sa sb w ha hb fa fb
  ·exact cmpP_23 a b sa sb w ha hb fa fb hgb hgt
 ·rcases hb with hb | hb
  ·exact cmpP_32 a b sa sb w ha hb fa fb hgb hgt
  ·exact cmpP_33 a b sa sb w ha hb fa fb hgb hgt
end Go.Proofs.YtijciakkfpjjbaaGreatDoor
