/- The numbers of two decimals. -/
import Derived.Test.YtijciakkfpjjbaaGreatDoorM4
import Derived.Test.YtijciakkfpjjbaaGreatDoorM2
import Derived.Test.YtijciakkfpjjbaaGreatDoorSH
import Derived.Test.YtijciakkfpjjbaaGreatDoorM3
import Derived.Lib.AtoiErrMem
namespace Go.Proofs.YtijciakkfpjjbaaGreatDoor
open Go Go.RowKit

/-- A value's six cells under a name. -/
structure Eq6 (c : Array Value) (v : Val) (s : Value) : Prop where
 out : cellsV v s = c
theorem name6 (v : Val) (s : Value) : ∃ c, Eq6 c v s := ⟨_, ⟨rfl⟩⟩
theorem Eq6.size {c : Array Value} {v : Val} {s : Value} (h : Eq6 c v s) : c.size = 6 := by rw [← h.out]; rfl
set_option maxRecDepth 100000 in
set_option maxHeartbeats 8000000 in
/-- Two whole numbers. -/
theorem refOrder_22 (a b : Val) (sa sb : Value) (w : World) (ha : a.kind = 2) (hb : b.kind = 2) (ha0 : -9223372036854775808 ≤ a.num) (ha1 : a.num ≤ 9223372036854775807) (hb0 : -9223372036854775808 ≤ b.num) (hb1 : b.num ≤ 9223372036854775807) (hta : a.text.size ≤ 4000000000000) (htb : b.text.size ≤ 4000000000000) :
    Calls Tryz.prog 15 #[.int .i64 1, .agg (cellsV a sa), .agg (cellsV b sb)] w (OrdIs a b w) := by
 have hr1 := Lib.hid (fun W : World => (show Calls Tryz.prog 53 #[.int .i64 1, .int .i64 2] W (fun e w' => e = .returned (.int .i64 9) ∧ w' = W) from rank2_any 2 W))
 have hd1 := Lib.hid (fun W : World => dec2_any a sa ha0 ha1 hta W)
 have hd2 := Lib.hid (fun W : World => dec2_any b sb hb0 hb1 htb W)
 have hcm := Lib.hid (fun W : World => refCompareD_any (exactT a) (exactT b) (decB_exact ha0 ha1) (decB_exact hb0 hb1) W)
 obtain ⟨X1, HX1⟩ := name_itV (exactT a)
 obtain ⟨X2, HX2⟩ := name_itV (exactT b)
 have hd1 := Lib.hid (fun W : World => (hd1.out W).mono fun e w' (h : DecIs a W e w') => (show e = .returned (.string X1) ∧ Below W.heap.size W w' from by rw [← HX1.out]; exact h))
 have hd2 := Lib.hid (fun W : World => (hd2.out W).mono fun e w' (h : DecIs b W e w') => (show e = .returned (.string X2) ∧ Below W.heap.size W w' from by rw [← HX2.out]; exact h))
 have HV := Lib.hid (show ordV a b = cmpD (exactT a) (exactT b) from by rw [ordV_num (.inl ha) (.inl hb), ha, hb, cmpI_self, if_neg (by decide), thenC_zero, thenC_zr])
 rw [HX1.out, HX2.out] at hcm HV
 have hk1 : (cellsV a sa)[0]? = some (.int .i64 2) := by rw [← ha]; rfl
 have hk2 : (cellsV b sb)[0]? = some (.int .i64 2) := by rw [← hb]; rfl
 obtain ⟨c1, Hc1⟩ := name6 a sa
 obtain ⟨c2, Hc2⟩ := name6 b sb
 rw [Hc1.out] at hd1 hk1 ⊢
 rw [Hc2.out] at hd2 hk2 ⊢
 have Q1 := Lib.hid Hc1.size
 have Q2 := Lib.hid Hc2.size
 obtain ⟨z, Hz⟩ := name_itV w.heap.size
 obtain ⟨w1, HW1⟩ := name_itV ((w.alloc (.cells c1 34)).alloc (.cells c2 34))
 have HB := Lib.hid (show Below w.heap.size w w1 from by rw [← HW1.out]; exact two_new w _ _)
 have HX := Lib.hid (show w1.heap[z]? = some (.cells c1 34 (0, 0)) from by rw [← HW1.out, ← Hz.out]; exact heap_alloc2_old w _ _)
 have HY := Lib.hid (show w1.heap[z + 1]? = some (.cells c2 34 (0, 0)) from by rw [← HW1.out, ← Hz.out]; exact heap_alloc2_new w _ _)
 have p0 : w1.cell? ⟨z, 0, none⟩ = some (.int .i64 2) := (cell_of_row _ _ _ _ _ _ HX.out).trans hk1
 have q0 : w1.cell? ⟨z + 1, 0, none⟩ = some (.int .i64 2) := (cell_of_row _ _ _ _ _ _ HY.out).trans hk2
 have HK1 := Lib.hid hk1
 have HK2 := Lib.hid hk2
 clear p0 q0
 have p0 : w1.cell? ⟨z, 0, none⟩ = some (.int .i64 2) := (cell_of_row _ _ _ _ _ _ HX.out).trans hk1
 have q0 : w1.cell? ⟨z + 1, 0, none⟩ = some (.int .i64 2) := (cell_of_row _ _ _ _ _ _ HY.out).trans hk2
 clear hk1 hk2 ha hb ha0 ha1 hb0 hb1 hta htb
 go_enter Tryz.func15, Tryz.ntmps15
 go_upto_region 1 with fail
 rw [HW1.out, Hz.out]
 clear HW1
 go_wp2_with fail
 refine (hr1.out w1).mono ?_
 rintro e w2 ⟨rfl, rfl⟩
 go_wp2_with fail
 refine (hr1.out _).mono ?_
 rintro e w3 ⟨rfl, rfl⟩
 go_upto_region 7 with fail
 have s1 := Lib.hid (show w3.drew.heap[z]? = some (.cells c1 34 (0, 0)) ∧ w3.drew.heap[z + 1]? = some (.cells c2 34 (0, 0)) from ⟨HX.out, HY.out⟩)
 refine wp_region_held_drew (S := fun W' => W'.heap[z]? = some (.cells c1 34 (0, 0)) ∧ W'.heap[z + 1]? = some (.cells c2 34 (0, 0))) (by kernel_rfl) s1.out (fun hHeld => ?_)
 refine Boxed.out ?_
 refine take_want 0 28 (.agg c1) (by kernel_rfl) (by rfl) (by kernel_rfl) (by kernel_rfl) (by kernel_rfl) (fun _ _ _ h => h) hHeld (fun w hSw => ?_) (fun hHeld => ?_)
 ·exact val_of (ld_run hSw.1 34 _ Tryz.underlying34 rfl (by rw [Q1.out]; kernel_rfl))
 simp only [Act.put, List.setIfInBounds_toArray, List.set_cons_zero, List.set_cons_succ]
 refine take_want 2 30 (.agg c2) (by kernel_rfl) (by rfl) (by kernel_rfl) (by kernel_rfl) (by kernel_rfl) (fun _ _ _ h => h) hHeld (fun w hSw => ?_) (fun hHeld => ?_)
 ·exact val_of (ld_run hSw.2 34 _ Tryz.underlying34 rfl (by rw [Q2.out]; kernel_rfl))
 simp only [Act.put, List.setIfInBounds_toArray, List.set_cons_zero, List.set_cons_succ]
 refine take_call 1 (by kernel_rfl) (by rfl) (fun K hK => ?_)
 change Oper.wp _ ⟨some 29, _, _, _, _, _⟩ _ _ _ _
 go_simp
 refine (hd1.out w3.drew).mono ?_
 rintro e w4 ⟨rfl, hb4⟩
 have HB4 := Lib.hid (show Below w3.heap.size w3 w4 from below_of_dr hb4)
 have HS4 := Lib.hid (show w4.heap[z]? = some (.cells c1 34 (0, 0)) ∧ w4.heap[z + 1]? = some (.cells c2 34 (0, 0)) from ⟨(HB4.out.block z (blk_lt HX.out)).trans HX.out, (HB4.out.block (z + 1) (blk_lt HY.out)).trans HY.out⟩)
 clear hb4
 dsimp only
 refine hK.out _ _ HS4.out (fun hHeld => ?_)
 clear hK K
 try simp only [Act.put, List.setIfInBounds_toArray, List.set_cons_zero, List.set_cons_succ]
 refine take_call 3 (by kernel_rfl) (by rfl) (fun K hK => ?_)
 change Oper.wp _ ⟨some 31, _, _, _, _, _⟩ _ _ _ _
 go_simp
 refine (hd2.out w4).mono ?_
 rintro e w5 ⟨rfl, hb5⟩
 have HB5 := Lib.hid (HB4.out.trans (hb5.mono HB4.out.size))
 have HS5 := Lib.hid (show w5.heap[z]? = some (.cells c1 34 (0, 0)) ∧ w5.heap[z + 1]? = some (.cells c2 34 (0, 0)) from ⟨(HB5.out.block z (blk_lt HX.out)).trans HX.out, (HB5.out.block (z + 1) (blk_lt HY.out)).trans HY.out⟩)
 clear hb5
 dsimp only
 refine hK.out _ _ HS5.out (fun hHeld => ?_)
 clear hK K
 try simp only [Act.put, List.setIfInBounds_toArray, List.set_cons_zero, List.set_cons_succ]
 refine take_call 4 (by kernel_rfl) (by rfl) (fun K hK => ?_)
 change Oper.wp _ ⟨some 32, _, _, _, _, _⟩ _ _ _ _
 go_simp
 refine (hcm.out w5).mono ?_
 rintro e w6 ⟨rfl, hb6⟩
 have HB6 := Lib.hid (HB5.out.trans (hb6.mono HB5.out.size))
 have HS6 := Lib.hid (show w6.heap[z]? = some (.cells c1 34 (0, 0)) ∧ w6.heap[z + 1]? = some (.cells c2 34 (0, 0)) from ⟨(HB6.out.block z (blk_lt HX.out)).trans HX.out, (HB6.out.block (z + 1) (blk_lt HY.out)).trans HY.out⟩)
 clear hb6
 obtain ⟨c, Hc⟩ := name_itV (cmpD X1 X2)
 rw [Hc.out]
 dsimp only
 refine hK.out _ _ HS6.out (fun hHeld => ?_)
 clear hK K
 try simp only [Act.put, List.setIfInBounds_toArray, List.set_cons_zero, List.set_cons_succ]
 refine take_want 5 9 (.int .i64 c) (by kernel_rfl) (by rfl) (by kernel_rfl) (by kernel_rfl) (by kernel_rfl) (fun _ _ _ h => h) hHeld (fun w hSw => ?_) (fun hHeld => ?_)
 ·unfold runsTo
  go_simp
 simp only [Act.put, List.setIfInBounds_toArray, List.set_cons_zero, List.set_cons_succ]
 refine ⟨wpAnyH_done (by kernel_rfl) ?_ _⟩
 clear hHeld
 have p0 : w6.cell? ⟨z, 0, none⟩ = some (.int .i64 2) := (cell_of_row _ _ _ _ _ _ HS6.out.1).trans HK1.out
 have q0 : w6.cell? ⟨z + 1, 0, none⟩ = some (.int .i64 2) := (cell_of_row _ _ _ _ _ _ HS6.out.2).trans HK2.out
 have HB7 := Lib.hid (HB.out.trans (HB6.out.mono HB.out.size))
 rw [Hc.out] at HV
 have hsg := Lib.hid (fun W : World => sign_any false false W)
 clear Hc
 by_cases hc : c = 0
 ·subst hc
  have hv := Lib.hid (show ordV a b = 0 from HV.out)
  go_wp2_with fail
  refine (hsg.out _).mono ?_
  rintro e w7 ⟨rfl, rfl⟩
  go_wp2_with fail
  go_ret
  exact ⟨by rw [hv.out]; rfl, HB7.out⟩
 ·have e1 : (c == 0) = false := by simpa using hc
  have hv := Lib.hid (show ordV a b = c from HV.out)
  clear hc
  go_wp2_with fail
  go_ret
  exact ⟨by rw [hv.out]; rfl, HB7.out⟩
set_option maxRecDepth 100000 in
set_option maxHeartbeats 8000000 in
/-- A whole number and a decimal. -/
theorem refOrder_23 (a b : Val) (sa sb : Value) (w : World) (ha : a.kind = 2) (hb : b.kind = 3) (ha0 : -9223372036854775808 ≤ a.num) (ha1 : a.num ≤ 9223372036854775807) (hb0 : -9223372036854775808 ≤ b.num) (hb1 : b.num ≤ 9223372036854775807) (hta : a.text.size ≤ 4000000000000) (htb : b.text.size ≤ 4000000000000) :
    Calls Tryz.prog 15 #[.int .i64 1, .agg (cellsV a sa), .agg (cellsV b sb)] w (OrdIs a b w) := by
 have hr1 := Lib.hid (fun W : World => (show Calls Tryz.prog 53 #[.int .i64 1, .int .i64 2] W (fun e w' => e = .returned (.int .i64 9) ∧ w' = W) from rank2_any 2 W))
 have hr2 := Lib.hid (fun W : World => (show Calls Tryz.prog 53 #[.int .i64 1, .int .i64 3] W (fun e w' => e = .returned (.int .i64 9) ∧ w' = W) from rank2_any 3 W))
 have hd1 := Lib.hid (fun W : World => dec2_any a sa ha0 ha1 hta W)
 have hd2 := Lib.hid (fun W : World => dec2_any b sb hb0 hb1 htb W)
 have hcm := Lib.hid (fun W : World => refCompareD_any (exactT a) (exactT b) (decB_exact ha0 ha1) (decB_exact hb0 hb1) W)
 obtain ⟨X1, HX1⟩ := name_itV (exactT a)
 obtain ⟨X2, HX2⟩ := name_itV (exactT b)
 have hd1 := Lib.hid (fun W : World => (hd1.out W).mono fun e w' (h : DecIs a W e w') => (show e = .returned (.string X1) ∧ Below W.heap.size W w' from by rw [← HX1.out]; exact h))
 have hd2 := Lib.hid (fun W : World => (hd2.out W).mono fun e w' (h : DecIs b W e w') => (show e = .returned (.string X2) ∧ Below W.heap.size W w' from by rw [← HX2.out]; exact h))
 have HV := Lib.hid (show ordV a b = thenC (cmpD (exactT a) (exactT b)) (-1) from by rw [ordV_num (.inl ha) (.inr hb), ha, hb]; rfl)
 rw [HX1.out, HX2.out] at hcm HV
 have hk1 : (cellsV a sa)[0]? = some (.int .i64 2) := by rw [← ha]; rfl
 have hk2 : (cellsV b sb)[0]? = some (.int .i64 3) := by rw [← hb]; rfl
 obtain ⟨c1, Hc1⟩ := name6 a sa
 obtain ⟨c2, Hc2⟩ := name6 b sb
 rw [Hc1.out] at hd1 hk1 ⊢
 rw [Hc2.out] at hd2 hk2 ⊢
 have Q1 := Lib.hid Hc1.size
 have Q2 := Lib.hid Hc2.size
 obtain ⟨z, Hz⟩ := name_itV w.heap.size
 obtain ⟨w1, HW1⟩ := name_itV ((w.alloc (.cells c1 34)).alloc (.cells c2 34))
 have HB := Lib.hid (show Below w.heap.size w w1 from by rw [← HW1.out]; exact two_new w _ _)
 have HX := Lib.hid (show w1.heap[z]? = some (.cells c1 34 (0, 0)) from by rw [← HW1.out, ← Hz.out]; exact heap_alloc2_old w _ _)
 have HY := Lib.hid (show w1.heap[z + 1]? = some (.cells c2 34 (0, 0)) from by rw [← HW1.out, ← Hz.out]; exact heap_alloc2_new w _ _)
 have p0 : w1.cell? ⟨z, 0, none⟩ = some (.int .i64 2) := (cell_of_row _ _ _ _ _ _ HX.out).trans hk1
 have q0 : w1.cell? ⟨z + 1, 0, none⟩ = some (.int .i64 3) := (cell_of_row _ _ _ _ _ _ HY.out).trans hk2
 have HK1 := Lib.hid hk1
 have HK2 := Lib.hid hk2
 clear p0 q0
 have p0 : w1.cell? ⟨z, 0, none⟩ = some (.int .i64 2) := (cell_of_row _ _ _ _ _ _ HX.out).trans hk1
 have q0 : w1.cell? ⟨z + 1, 0, none⟩ = some (.int .i64 3) := (cell_of_row _ _ _ _ _ _ HY.out).trans hk2
 clear hk1 hk2 ha hb ha0 ha1 hb0 hb1 hta htb
 go_enter Tryz.func15, Tryz.ntmps15
 go_upto_region 1 with fail
 rw [HW1.out, Hz.out]
 clear HW1
 go_wp2_with fail
 refine (hr1.out w1).mono ?_
 rintro e w2 ⟨rfl, rfl⟩
 go_wp2_with fail
 refine (hr2.out _).mono ?_
 rintro e w3 ⟨rfl, rfl⟩
 go_upto_region 7 with fail
 have s1 := Lib.hid (show w3.drew.heap[z]? = some (.cells c1 34 (0, 0)) ∧ w3.drew.heap[z + 1]? = some (.cells c2 34 (0, 0)) from ⟨HX.out, HY.out⟩)
 refine wp_region_held_drew (S := fun W' => W'.heap[z]? = some (.cells c1 34 (0, 0)) ∧ W'.heap[z + 1]? = some (.cells c2 34 (0, 0))) (by kernel_rfl) s1.out (fun hHeld => ?_)
 refine Boxed.out ?_
 refine take_want 0 28 (.agg c1) (by kernel_rfl) (by rfl) (by kernel_rfl) (by kernel_rfl) (by kernel_rfl) (fun _ _ _ h => h) hHeld (fun w hSw => ?_) (fun hHeld => ?_)
 ·exact val_of (ld_run hSw.1 34 _ Tryz.underlying34 rfl (by rw [Q1.out]; kernel_rfl))
 simp only [Act.put, List.setIfInBounds_toArray, List.set_cons_zero, List.set_cons_succ]
 refine take_want 2 30 (.agg c2) (by kernel_rfl) (by rfl) (by kernel_rfl) (by kernel_rfl) (by kernel_rfl) (fun _ _ _ h => h) hHeld (fun w hSw => ?_) (fun hHeld => ?_)
 ·exact val_of (ld_run hSw.2 34 _ Tryz.underlying34 rfl (by rw [Q2.out]; kernel_rfl))
 simp only [Act.put, List.setIfInBounds_toArray, List.set_cons_zero, List.set_cons_succ]
 refine take_call 1 (by kernel_rfl) (by rfl) (fun K hK => ?_)
 change Oper.wp _ ⟨some 29, _, _, _, _, _⟩ _ _ _ _
 go_simp
 refine (hd1.out w3.drew).mono ?_
 rintro e w4 ⟨rfl, hb4⟩
 have HB4 := Lib.hid (show Below w3.heap.size w3 w4 from below_of_dr hb4)
 have HS4 := Lib.hid (show w4.heap[z]? = some (.cells c1 34 (0, 0)) ∧ w4.heap[z + 1]? = some (.cells c2 34 (0, 0)) from ⟨(HB4.out.block z (blk_lt HX.out)).trans HX.out, (HB4.out.block (z + 1) (blk_lt HY.out)).trans HY.out⟩)
 clear hb4
 dsimp only
 refine hK.out _ _ HS4.out (fun hHeld => ?_)
 clear hK K
 try simp only [Act.put, List.setIfInBounds_toArray, List.set_cons_zero, List.set_cons_succ]
 refine take_call 3 (by kernel_rfl) (by rfl) (fun K hK => ?_)
 change Oper.wp _ ⟨some 31, _, _, _, _, _⟩ _ _ _ _
 go_simp
 refine (hd2.out w4).mono ?_
 rintro e w5 ⟨rfl, hb5⟩
 have HB5 := Lib.hid (HB4.out.trans (hb5.mono HB4.out.size))
 have HS5 := Lib.hid (show w5.heap[z]? = some (.cells c1 34 (0, 0)) ∧ w5.heap[z + 1]? = some (.cells c2 34 (0, 0)) from ⟨(HB5.out.block z (blk_lt HX.out)).trans HX.out, (HB5.out.block (z + 1) (blk_lt HY.out)).trans HY.out⟩)
 clear hb5
 dsimp only
 refine hK.out _ _ HS5.out (fun hHeld => ?_)
 clear hK K
 try simp only [Act.put, List.setIfInBounds_toArray, List.set_cons_zero, List.set_cons_succ]
 refine take_call 4 (by kernel_rfl) (by rfl) (fun K hK => ?_)
 change Oper.wp _ ⟨some 32, _, _, _, _, _⟩ _ _ _ _
 go_simp
 refine (hcm.out w5).mono ?_
 rintro e w6 ⟨rfl, hb6⟩
 have HB6 := Lib.hid (HB5.out.trans (hb6.mono HB5.out.size))
 have HS6 := Lib.hid (show w6.heap[z]? = some (.cells c1 34 (0, 0)) ∧ w6.heap[z + 1]? = some (.cells c2 34 (0, 0)) from ⟨(HB6.out.block z (blk_lt HX.out)).trans HX.out, (HB6.out.block (z + 1) (blk_lt HY.out)).trans HY.out⟩)
 clear hb6
 obtain ⟨c, Hc⟩ := name_itV (cmpD X1 X2)
 rw [Hc.out]
 dsimp only
 refine hK.out _ _ HS6.out (fun hHeld => ?_)
 clear hK K
 try simp only [Act.put, List.setIfInBounds_toArray, List.set_cons_zero, List.set_cons_succ]
 refine take_want 5 9 (.int .i64 c) (by kernel_rfl) (by rfl) (by kernel_rfl) (by kernel_rfl) (by kernel_rfl) (fun _ _ _ h => h) hHeld (fun w hSw => ?_) (fun hHeld => ?_)
 ·unfold runsTo
  go_simp
 simp only [Act.put, List.setIfInBounds_toArray, List.set_cons_zero, List.set_cons_succ]
 refine ⟨wpAnyH_done (by kernel_rfl) ?_ _⟩
 clear hHeld
 have p0 : w6.cell? ⟨z, 0, none⟩ = some (.int .i64 2) := (cell_of_row _ _ _ _ _ _ HS6.out.1).trans HK1.out
 have q0 : w6.cell? ⟨z + 1, 0, none⟩ = some (.int .i64 3) := (cell_of_row _ _ _ _ _ _ HS6.out.2).trans HK2.out
 have HB7 := Lib.hid (HB.out.trans (HB6.out.mono HB.out.size))
 rw [Hc.out] at HV
 have hsg := Lib.hid (fun W : World => sign_any true false W)
 clear Hc
 by_cases hc : c = 0
 ·subst hc
  have hv := Lib.hid (show ordV a b = -1 from HV.out)
  go_wp2_with fail
  refine (hsg.out _).mono ?_
  rintro e w7 ⟨rfl, rfl⟩
  go_wp2_with fail
  go_ret
  exact ⟨by rw [hv.out]; rfl, HB7.out⟩
 ·have e1 : (c == 0) = false := by simpa using hc
  have hv := Lib.hid (show ordV a b = c from HV.out.trans (thenC_ne hc))
  clear hc
  go_wp2_with fail
  go_ret
  exact ⟨by rw [hv.out]; rfl, HB7.out⟩
set_option maxRecDepth 100000 in
set_option maxHeartbeats 8000000 in
/-- A whole number and a decimal. -/
theorem refOrder_32 (a b : Val) (sa sb : Value) (w : World) (ha : a.kind = 3) (hb : b.kind = 2) (ha0 : -9223372036854775808 ≤ a.num) (ha1 : a.num ≤ 9223372036854775807) (hb0 : -9223372036854775808 ≤ b.num) (hb1 : b.num ≤ 9223372036854775807) (hta : a.text.size ≤ 4000000000000) (htb : b.text.size ≤ 4000000000000) :
    Calls Tryz.prog 15 #[.int .i64 1, .agg (cellsV a sa), .agg (cellsV b sb)] w (OrdIs a b w) := by
 have hr1 := Lib.hid (fun W : World => (show Calls Tryz.prog 53 #[.int .i64 1, .int .i64 3] W (fun e w' => e = .returned (.int .i64 9) ∧ w' = W) from rank2_any 3 W))
 have hr2 := Lib.hid (fun W : World => (show Calls Tryz.prog 53 #[.int .i64 1, .int .i64 2] W (fun e w' => e = .returned (.int .i64 9) ∧ w' = W) from rank2_any 2 W))
 have hd1 := Lib.hid (fun W : World => dec2_any a sa ha0 ha1 hta W)
 have hd2 := Lib.hid (fun W : World => dec2_any b sb hb0 hb1 htb W)
 have hcm := Lib.hid (fun W : World => refCompareD_any (exactT a) (exactT b) (decB_exact ha0 ha1) (decB_exact hb0 hb1) W)
 obtain ⟨X1, HX1⟩ := name_itV (exactT a)
 obtain ⟨X2, HX2⟩ := name_itV (exactT b)
 have hd1 := Lib.hid (fun W : World => (hd1.out W).mono fun e w' (h : DecIs a W e w') => (show e = .returned (.string X1) ∧ Below W.heap.size W w' from by rw [← HX1.out]; exact h))
 have hd2 := Lib.hid (fun W : World => (hd2.out W).mono fun e w' (h : DecIs b W e w') => (show e = .returned (.string X2) ∧ Below W.heap.size W w' from by rw [← HX2.out]; exact h))
 have HV := Lib.hid (show ordV a b = thenC (cmpD (exactT a) (exactT b)) (1) from by rw [ordV_num (.inr ha) (.inl hb), ha, hb]; rfl)
 rw [HX1.out, HX2.out] at hcm HV
 have hk1 : (cellsV a sa)[0]? = some (.int .i64 3) := by rw [← ha]; rfl
 have hk2 : (cellsV b sb)[0]? = some (.int .i64 2) := by rw [← hb]; rfl
 obtain ⟨c1, Hc1⟩ := name6 a sa
 obtain ⟨c2, Hc2⟩ := name6 b sb
 rw [Hc1.out] at hd1 hk1 ⊢
 rw [Hc2.out] at hd2 hk2 ⊢
 have Q1 := Lib.hid Hc1.size
 have Q2 := Lib.hid Hc2.size
 obtain ⟨z, Hz⟩ := name_itV w.heap.size
 obtain ⟨w1, HW1⟩ := name_itV ((w.alloc (.cells c1 34)).alloc (.cells c2 34))
 have HB := Lib.hid (show Below w.heap.size w w1 from by rw [← HW1.out]; exact two_new w _ _)
 have HX := Lib.hid (show w1.heap[z]? = some (.cells c1 34 (0, 0)) from by rw [← HW1.out, ← Hz.out]; exact heap_alloc2_old w _ _)
 have HY := Lib.hid (show w1.heap[z + 1]? = some (.cells c2 34 (0, 0)) from by rw [← HW1.out, ← Hz.out]; exact heap_alloc2_new w _ _)
 have p0 : w1.cell? ⟨z, 0, none⟩ = some (.int .i64 3) := (cell_of_row _ _ _ _ _ _ HX.out).trans hk1
 have q0 : w1.cell? ⟨z + 1, 0, none⟩ = some (.int .i64 2) := (cell_of_row _ _ _ _ _ _ HY.out).trans hk2
 have HK1 := Lib.hid hk1
 have HK2 := Lib.hid hk2
 clear p0 q0
 have p0 : w1.cell? ⟨z, 0, none⟩ = some (.int .i64 3) := (cell_of_row _ _ _ _ _ _ HX.out).trans hk1
 have q0 : w1.cell? ⟨z + 1, 0, none⟩ = some (.int .i64 2) := (cell_of_row _ _ _ _ _ _ HY.out).trans hk2
 clear hk1 hk2 ha hb ha0 ha1 hb0 hb1 hta htb
 go_enter Tryz.func15, Tryz.ntmps15
 go_upto_region 1 with fail
 rw [HW1.out, Hz.out]
 clear HW1
 go_wp2_with fail
 refine (hr1.out w1).mono ?_
 rintro e w2 ⟨rfl, rfl⟩
 go_wp2_with fail
 refine (hr2.out _).mono ?_
 rintro e w3 ⟨rfl, rfl⟩
 go_upto_region 7 with fail
 have s1 := Lib.hid (show w3.drew.heap[z]? = some (.cells c1 34 (0, 0)) ∧ w3.drew.heap[z + 1]? = some (.cells c2 34 (0, 0)) from ⟨HX.out, HY.out⟩)
 refine wp_region_held_drew (S := fun W' => W'.heap[z]? = some (.cells c1 34 (0, 0)) ∧ W'.heap[z + 1]? = some (.cells c2 34 (0, 0))) (by kernel_rfl) s1.out (fun hHeld => ?_)
 refine Boxed.out ?_
 refine take_want 0 28 (.agg c1) (by kernel_rfl) (by rfl) (by kernel_rfl) (by kernel_rfl) (by kernel_rfl) (fun _ _ _ h => h) hHeld (fun w hSw => ?_) (fun hHeld => ?_)
 ·exact val_of (ld_run hSw.1 34 _ Tryz.underlying34 rfl (by rw [Q1.out]; kernel_rfl))
 simp only [Act.put, List.setIfInBounds_toArray, List.set_cons_zero, List.set_cons_succ]
 refine take_want 2 30 (.agg c2) (by kernel_rfl) (by rfl) (by kernel_rfl) (by kernel_rfl) (by kernel_rfl) (fun _ _ _ h => h) hHeld (fun w hSw => ?_) (fun hHeld => ?_)
 ·exact val_of (ld_run hSw.2 34 _ Tryz.underlying34 rfl (by rw [Q2.out]; kernel_rfl))
 simp only [Act.put, List.setIfInBounds_toArray, List.set_cons_zero, List.set_cons_succ]
 refine take_call 1 (by kernel_rfl) (by rfl) (fun K hK => ?_)
 change Oper.wp _ ⟨some 29, _, _, _, _, _⟩ _ _ _ _
 go_simp
 refine (hd1.out w3.drew).mono ?_
 rintro e w4 ⟨rfl, hb4⟩
 have HB4 := Lib.hid (show Below w3.heap.size w3 w4 from below_of_dr hb4)
 have HS4 := Lib.hid (show w4.heap[z]? = some (.cells c1 34 (0, 0)) ∧ w4.heap[z + 1]? = some (.cells c2 34 (0, 0)) from ⟨(HB4.out.block z (blk_lt HX.out)).trans HX.out, (HB4.out.block (z + 1) (blk_lt HY.out)).trans HY.out⟩)
 clear hb4
 dsimp only
 refine hK.out _ _ HS4.out (fun hHeld => ?_)
 clear hK K
 try simp only [Act.put, List.setIfInBounds_toArray, List.set_cons_zero, List.set_cons_succ]
 refine take_call 3 (by kernel_rfl) (by rfl) (fun K hK => ?_)
 change Oper.wp _ ⟨some 31, _, _, _, _, _⟩ _ _ _ _
 go_simp
 refine (hd2.out w4).mono ?_
 rintro e w5 ⟨rfl, hb5⟩
 have HB5 := Lib.hid (HB4.out.trans (hb5.mono HB4.out.size))
 have HS5 := Lib.hid (show w5.heap[z]? = some (.cells c1 34 (0, 0)) ∧ w5.heap[z + 1]? = some (.cells c2 34 (0, 0)) from ⟨(HB5.out.block z (blk_lt HX.out)).trans HX.out, (HB5.out.block (z + 1) (blk_lt HY.out)).trans HY.out⟩)
 clear hb5
 dsimp only
 refine hK.out _ _ HS5.out (fun hHeld => ?_)
 clear hK K
 try simp only [Act.put, List.setIfInBounds_toArray, List.set_cons_zero, List.set_cons_succ]
 refine take_call 4 (by kernel_rfl) (by rfl) (fun K hK => ?_)
 change Oper.wp _ ⟨some 32, _, _, _, _, _⟩ _ _ _ _
 go_simp
 refine (hcm.out w5).mono ?_
 rintro e w6 ⟨rfl, hb6⟩
 have HB6 := Lib.hid (HB5.out.trans (hb6.mono HB5.out.size))
 have HS6 := Lib.hid (show w6.heap[z]? = some (.cells c1 34 (0, 0)) ∧ w6.heap[z + 1]? = some (.cells c2 34 (0, 0)) from ⟨(HB6.out.block z (blk_lt HX.out)).trans HX.out, (HB6.out.block (z + 1) (blk_lt HY.out)).trans HY.out⟩)
 clear hb6
 obtain ⟨c, Hc⟩ := name_itV (cmpD X1 X2)
 rw [Hc.out]
 dsimp only
 refine hK.out _ _ HS6.out (fun hHeld => ?_)
 clear hK K
 try simp only [Act.put, List.setIfInBounds_toArray, List.set_cons_zero, List.set_cons_succ]
 refine take_want 5 9 (.int .i64 c) (by kernel_rfl) (by rfl) (by kernel_rfl) (by kernel_rfl) (by kernel_rfl) (fun _ _ _ h => h) hHeld (fun w hSw => ?_) (fun hHeld => ?_)
 ·unfold runsTo
  go_simp
 simp only [Act.put, List.setIfInBounds_toArray, List.set_cons_zero, List.set_cons_succ]
 refine ⟨wpAnyH_done (by kernel_rfl) ?_ _⟩
 clear hHeld
 have p0 : w6.cell? ⟨z, 0, none⟩ = some (.int .i64 3) := (cell_of_row _ _ _ _ _ _ HS6.out.1).trans HK1.out
 have q0 : w6.cell? ⟨z + 1, 0, none⟩ = some (.int .i64 2) := (cell_of_row _ _ _ _ _ _ HS6.out.2).trans HK2.out
 have HB7 := Lib.hid (HB.out.trans (HB6.out.mono HB.out.size))
 rw [Hc.out] at HV
 have hsg := Lib.hid (fun W : World => sign_any false true W)
 clear Hc
 by_cases hc : c = 0
 ·subst hc
  have hv := Lib.hid (show ordV a b = 1 from HV.out)
  go_wp2_with fail
  refine (hsg.out _).mono ?_
  rintro e w7 ⟨rfl, rfl⟩
  go_wp2_with fail
  go_ret
  exact ⟨by rw [hv.out]; rfl, HB7.out⟩
 ·have e1 : (c == 0) = false := by simpa using hc
  have hv := Lib.hid (show ordV a b = c from HV.out.trans (thenC_ne hc))
  clear hc
  go_wp2_with fail
  go_ret
  exact ⟨by rw [hv.out]; rfl, HB7.out⟩
set_option maxRecDepth 100000 in
set_option maxHeartbeats 8000000 in
/-- Two decimals. -/
theorem refOrder_33 (a b : Val) (sa sb : Value) (w : World) (ha : a.kind = 3) (hb : b.kind = 3) (ha0 : -9223372036854775808 ≤ a.num) (ha1 : a.num ≤ 9223372036854775807) (hb0 : -9223372036854775808 ≤ b.num) (hb1 : b.num ≤ 9223372036854775807) (hta : a.text.size ≤ 4000000000000) (htb : b.text.size ≤ 4000000000000) :
    Calls Tryz.prog 15 #[.int .i64 1, .agg (cellsV a sa), .agg (cellsV b sb)] w (OrdIs a b w) := by
 have hr1 := Lib.hid (fun W : World => (show Calls Tryz.prog 53 #[.int .i64 1, .int .i64 3] W (fun e w' => e = .returned (.int .i64 9) ∧ w' = W) from rank2_any 3 W))
 have hd1 := Lib.hid (fun W : World => dec2_any a sa ha0 ha1 hta W)
 have hd2 := Lib.hid (fun W : World => dec2_any b sb hb0 hb1 htb W)
 have hcm := Lib.hid (fun W : World => refCompareD_any (exactT a) (exactT b) (decB_exact ha0 ha1) (decB_exact hb0 hb1) W)
 obtain ⟨X1, HX1⟩ := name_itV (exactT a)
 obtain ⟨X2, HX2⟩ := name_itV (exactT b)
 have hd1 := Lib.hid (fun W : World => (hd1.out W).mono fun e w' (h : DecIs a W e w') => (show e = .returned (.string X1) ∧ Below W.heap.size W w' from by rw [← HX1.out]; exact h))
 have hd2 := Lib.hid (fun W : World => (hd2.out W).mono fun e w' (h : DecIs b W e w') => (show e = .returned (.string X2) ∧ Below W.heap.size W w' from by rw [← HX2.out]; exact h))
 have HV := Lib.hid (show ordV a b = thenC (cmpD (exactT a) (exactT b)) (cmpS a.text.data.toList b.text.data.toList) from by rw [ordV_num (.inr ha) (.inr hb), ha, hb]; rfl)
 rw [HX1.out, HX2.out] at hcm HV
 have hk1 : (cellsV a sa)[0]? = some (.int .i64 3) := by rw [← ha]; rfl
 have hk2 : (cellsV b sb)[0]? = some (.int .i64 3) := by rw [← hb]; rfl
 have hx1 : (cellsV a sa)[3]? = some (.string a.text) := rfl
 have hx2 : (cellsV b sb)[3]? = some (.string b.text) := rfl
 obtain ⟨ta, Hta⟩ := name_itV a.text
 obtain ⟨tb, Htb⟩ := name_itV b.text
 rw [Hta.out, Htb.out] at HV
 rw [Hta.out] at hx1
 rw [Htb.out] at hx2
 have hx1 := Lib.hid hx1
 have hx2 := Lib.hid hx2
 obtain ⟨c1, Hc1⟩ := name6 a sa
 obtain ⟨c2, Hc2⟩ := name6 b sb
 rw [Hc1.out] at hd1 hk1 ⊢
 rw [Hc2.out] at hd2 hk2 ⊢
 have HT1 := Lib.hid hx1.out
 have HT2 := Lib.hid hx2.out
 rw [Hc1.out] at HT1
 rw [Hc2.out] at HT2
 have Q1 := Lib.hid Hc1.size
 have Q2 := Lib.hid Hc2.size
 obtain ⟨z, Hz⟩ := name_itV w.heap.size
 obtain ⟨w1, HW1⟩ := name_itV ((w.alloc (.cells c1 34)).alloc (.cells c2 34))
 have HB := Lib.hid (show Below w.heap.size w w1 from by rw [← HW1.out]; exact two_new w _ _)
 have HX := Lib.hid (show w1.heap[z]? = some (.cells c1 34 (0, 0)) from by rw [← HW1.out, ← Hz.out]; exact heap_alloc2_old w _ _)
 have HY := Lib.hid (show w1.heap[z + 1]? = some (.cells c2 34 (0, 0)) from by rw [← HW1.out, ← Hz.out]; exact heap_alloc2_new w _ _)
 have p0 : w1.cell? ⟨z, 0, none⟩ = some (.int .i64 3) := (cell_of_row _ _ _ _ _ _ HX.out).trans hk1
 have q0 : w1.cell? ⟨z + 1, 0, none⟩ = some (.int .i64 3) := (cell_of_row _ _ _ _ _ _ HY.out).trans hk2
 have HK1 := Lib.hid hk1
 have HK2 := Lib.hid hk2
 clear p0 q0
 have p0 : w1.cell? ⟨z, 0, none⟩ = some (.int .i64 3) := (cell_of_row _ _ _ _ _ _ HX.out).trans hk1
 have q0 : w1.cell? ⟨z + 1, 0, none⟩ = some (.int .i64 3) := (cell_of_row _ _ _ _ _ _ HY.out).trans hk2
 clear hk1 hk2 ha hb ha0 ha1 hb0 hb1 hta htb
 go_enter Tryz.func15, Tryz.ntmps15
 go_upto_region 1 with fail
 rw [HW1.out, Hz.out]
 clear HW1
 go_wp2_with fail
 refine (hr1.out w1).mono ?_
 rintro e w2 ⟨rfl, rfl⟩
 go_wp2_with fail
 refine (hr1.out _).mono ?_
 rintro e w3 ⟨rfl, rfl⟩
 go_upto_region 7 with fail
 have s1 := Lib.hid (show w3.drew.heap[z]? = some (.cells c1 34 (0, 0)) ∧ w3.drew.heap[z + 1]? = some (.cells c2 34 (0, 0)) from ⟨HX.out, HY.out⟩)
 refine wp_region_held_drew (S := fun W' => W'.heap[z]? = some (.cells c1 34 (0, 0)) ∧ W'.heap[z + 1]? = some (.cells c2 34 (0, 0))) (by kernel_rfl) s1.out (fun hHeld => ?_)
 refine Boxed.out ?_
 refine take_want 0 28 (.agg c1) (by kernel_rfl) (by rfl) (by kernel_rfl) (by kernel_rfl) (by kernel_rfl) (fun _ _ _ h => h) hHeld (fun w hSw => ?_) (fun hHeld => ?_)
 ·exact val_of (ld_run hSw.1 34 _ Tryz.underlying34 rfl (by rw [Q1.out]; kernel_rfl))
 simp only [Act.put, List.setIfInBounds_toArray, List.set_cons_zero, List.set_cons_succ]
 refine take_want 2 30 (.agg c2) (by kernel_rfl) (by rfl) (by kernel_rfl) (by kernel_rfl) (by kernel_rfl) (fun _ _ _ h => h) hHeld (fun w hSw => ?_) (fun hHeld => ?_)
 ·exact val_of (ld_run hSw.2 34 _ Tryz.underlying34 rfl (by rw [Q2.out]; kernel_rfl))
 simp only [Act.put, List.setIfInBounds_toArray, List.set_cons_zero, List.set_cons_succ]
 refine take_call 1 (by kernel_rfl) (by rfl) (fun K hK => ?_)
 change Oper.wp _ ⟨some 29, _, _, _, _, _⟩ _ _ _ _
 go_simp
 refine (hd1.out w3.drew).mono ?_
 rintro e w4 ⟨rfl, hb4⟩
 have HB4 := Lib.hid (show Below w3.heap.size w3 w4 from below_of_dr hb4)
 have HS4 := Lib.hid (show w4.heap[z]? = some (.cells c1 34 (0, 0)) ∧ w4.heap[z + 1]? = some (.cells c2 34 (0, 0)) from ⟨(HB4.out.block z (blk_lt HX.out)).trans HX.out, (HB4.out.block (z + 1) (blk_lt HY.out)).trans HY.out⟩)
 clear hb4
 dsimp only
 refine hK.out _ _ HS4.out (fun hHeld => ?_)
 clear hK K
 try simp only [Act.put, List.setIfInBounds_toArray, List.set_cons_zero, List.set_cons_succ]
 refine take_call 3 (by kernel_rfl) (by rfl) (fun K hK => ?_)
 change Oper.wp _ ⟨some 31, _, _, _, _, _⟩ _ _ _ _
 go_simp
 refine (hd2.out w4).mono ?_
 rintro e w5 ⟨rfl, hb5⟩
 have HB5 := Lib.hid (HB4.out.trans (hb5.mono HB4.out.size))
 have HS5 := Lib.hid (show w5.heap[z]? = some (.cells c1 34 (0, 0)) ∧ w5.heap[z + 1]? = some (.cells c2 34 (0, 0)) from ⟨(HB5.out.block z (blk_lt HX.out)).trans HX.out, (HB5.out.block (z + 1) (blk_lt HY.out)).trans HY.out⟩)
 clear hb5
 dsimp only
 refine hK.out _ _ HS5.out (fun hHeld => ?_)
 clear hK K
 try simp only [Act.put, List.setIfInBounds_toArray, List.set_cons_zero, List.set_cons_succ]
 refine take_call 4 (by kernel_rfl) (by rfl) (fun K hK => ?_)
 change Oper.wp _ ⟨some 32, _, _, _, _, _⟩ _ _ _ _
 go_simp
 refine (hcm.out w5).mono ?_
 rintro e w6 ⟨rfl, hb6⟩
 have HB6 := Lib.hid (HB5.out.trans (hb6.mono HB5.out.size))
 have HS6 := Lib.hid (show w6.heap[z]? = some (.cells c1 34 (0, 0)) ∧ w6.heap[z + 1]? = some (.cells c2 34 (0, 0)) from ⟨(HB6.out.block z (blk_lt HX.out)).trans HX.out, (HB6.out.block (z + 1) (blk_lt HY.out)).trans HY.out⟩)
 clear hb6
 obtain ⟨c, Hc⟩ := name_itV (cmpD X1 X2)
 rw [Hc.out]
 dsimp only
 refine hK.out _ _ HS6.out (fun hHeld => ?_)
 clear hK K
 try simp only [Act.put, List.setIfInBounds_toArray, List.set_cons_zero, List.set_cons_succ]
 refine take_want 5 9 (.int .i64 c) (by kernel_rfl) (by rfl) (by kernel_rfl) (by kernel_rfl) (by kernel_rfl) (fun _ _ _ h => h) hHeld (fun w hSw => ?_) (fun hHeld => ?_)
 ·unfold runsTo
  go_simp
 simp only [Act.put, List.setIfInBounds_toArray, List.set_cons_zero, List.set_cons_succ]
 refine ⟨wpAnyH_done (by kernel_rfl) ?_ _⟩
 clear hHeld
 have p0 : w6.cell? ⟨z, 0, none⟩ = some (.int .i64 3) := (cell_of_row _ _ _ _ _ _ HS6.out.1).trans HK1.out
 have q0 : w6.cell? ⟨z + 1, 0, none⟩ = some (.int .i64 3) := (cell_of_row _ _ _ _ _ _ HS6.out.2).trans HK2.out
 have HB7 := Lib.hid (HB.out.trans (HB6.out.mono HB.out.size))
 rw [Hc.out] at HV
 have hsg := Lib.hid (fun W : World => sign_any false false W)
 have hst := Lib.hid (fun W : World => sign_any (Op.bytesLess ta.toList tb.toList) (!Op.bytesLess ta.toList tb.toList && !ta.toList == tb.toList) W)
 have p3 : w6.cell? ⟨z, 3, none⟩ = some (.string ta) := (cell_of_row _ _ _ _ _ _ HS6.out.1).trans HT1.out
 have q3 : w6.cell? ⟨z + 1, 3, none⟩ = some (.string tb) := (cell_of_row _ _ _ _ _ _ HS6.out.2).trans HT2.out
 have HST := Lib.hid (sign_text ta tb)
 obtain ⟨sv, Hsv⟩ := name_itV (signV (Op.bytesLess ta.toList tb.toList) (!Op.bytesLess ta.toList tb.toList && !ta.toList == tb.toList))
 rw [Hsv.out] at hst HST
 clear Hc
 by_cases hc : c = 0
 ·subst hc
  have hv := Lib.hid (show ordV a b = sv from HV.out.trans HST.out.symm)
  go_wp2_with fail
  refine (hsg.out _).mono ?_
  rintro e w7 ⟨rfl, rfl⟩
  have sg0 : signV false false = 0 := rfl
  go_wp2_with fail
  refine (hst.out _).mono ?_
  rintro e w7 ⟨rfl, rfl⟩
  go_wp2_with fail
  go_ret
  exact ⟨by rw [hv.out]; rfl, HB7.out⟩
 ·have e1 : (c == 0) = false := by simpa using hc
  have hv := Lib.hid (show ordV a b = c from HV.out.trans (thenC_ne hc))
  clear hc
  go_wp2_with fail
  go_ret
  exact ⟨by rw [hv.out]; rfl, HB7.out⟩
end Go.Proofs.YtijciakkfpjjbaaGreatDoor
namespace Go.Proofs.YtijciakkfpjjbaaGreatDoor
open Go Go.RowKit

/-- Numbers that an int holds, texts that a machine bears. -/
structure FitV (v : Val) : Prop where
 n0 : -9223372036854775808 ≤ v.num
 n1 : v.num ≤ 9223372036854775807
 ts : v.text.size ≤ 4000000000000
theorem refOrder_any (a b : Val) (sa sb : Value) (w : World) (h5 : a.kind ≠ 5) (ha : FitV a) (hb : FitV b) :
    Calls Tryz.prog 15 #[.int .i64 1, .agg (cellsV a sa), .agg (cellsV b sb)] w (OrdIs a b w) := by
 by_cases hne : rankS a.kind = rankS b.kind
 ·by_cases hbare : bareK a.kind = false ∧ a.kind ≠ 3
  ·by_cases ht : a.text = b.text
   ·exact refOrder_text2 a b sa sb w hne hbare.1 hbare.2 ht
   ·exact refOrder_text1 a b sa sb w hne hbare.1 hbare.2 ht
  ·have hk : a.kind = 1 ∨ a.kind = 2 ∨ a.kind = 3 ∨ a.kind = 6 ∨ a.kind = 7 := by
     by_cases h3 : a.kind = 3
     ·omega
     ·have hb2 : bareK a.kind = true := by
        cases h : bareK a.kind with
        | true => rfl
        | false => exact absurd ⟨h, h3⟩ hbare
      unfold bareK at hb2
      have := of_decide_eq_true hb2
      omega
   rcases rank_same hne with e | e | e
   ·rcases hk with h | h | h | h | h
    ·exact refOrder_bool a b sa sb w h (e ▸ h)
    ·exact refOrder_22 a b sa sb w h (e ▸ h) ha.n0 ha.n1 hb.n0 hb.n1 ha.ts hb.ts
    ·exact refOrder_33 a b sa sb w h (e ▸ h) ha.n0 ha.n1 hb.n0 hb.n1 ha.ts hb.ts
    ·exact refOrder_thing6 a b sa sb w h (e ▸ h)
    ·exact refOrder_thing7 a b sa sb w h (e ▸ h)
   ·rcases e with ⟨e1 | e1, e2 | e2⟩
    ·exact refOrder_22 a b sa sb w e1 e2 ha.n0 ha.n1 hb.n0 hb.n1 ha.ts hb.ts
    ·exact refOrder_23 a b sa sb w e1 e2 ha.n0 ha.n1 hb.n0 hb.n1 ha.ts hb.ts
    ·exact refOrder_32 a b sa sb w e1 e2 ha.n0 ha.n1 hb.n0 hb.n1 ha.ts hb.ts
    ·exact refOrder_33 a b sa sb w e1 e2 ha.n0 ha.n1 hb.n0 hb.n1 ha.ts hb.ts
   ·exfalso
    have h := e.1
    rcases hk with h2 | h2 | h2 | h2 | h2 <;> (rw [h2] at h; revert h; decide)
 ·exact refOrder_rank a b sa sb w hne
end Go.Proofs.YtijciakkfpjjbaaGreatDoor
namespace Go.Proofs.YtijciakkfpjjbaaGreatDoor
open Go Go.RowKit

set_option maxRecDepth 100000 in
theorem nanS_any (x : ByteArray) (w : World) : Calls Tryz.prog 161 #[.string x] w fun e w' => e = .returned (.bool false) ∧ w' = w := by
 go_enter Tryz.func161, Tryz.ntmps161
 go_wp2_with fail
 go_ret
 exact ⟨by simp, rfl⟩
set_option maxRecDepth 100000 in
theorem nan64_any (x : Int) (w : World) : Calls Tryz.prog 162 #[.int .i64 x] w fun e w' => e = .returned (.bool false) ∧ w' = w := by
 go_enter Tryz.func162, Tryz.ntmps162
 go_wp2_with fail
 go_ret
 exact ⟨by simp, rfl⟩
set_option maxRecDepth 100000 in
set_option maxHeartbeats 1000000 in
theorem cmp64_any (x y : Int) (w : World) : Calls Tryz.prog 127 #[.int .i64 x, .int .i64 y] w fun e w' => e = .returned (.int .i64 (cmpI x y)) ∧ w' = w := by
 have hn := Lib.hid nan64_any
 go_enter Tryz.func127, Tryz.ntmps127
 go_wp2_with (go_at_call 162; (with_reducible refine (hn.out _ _).mono ?_); rintro e w' ⟨rfl, rfl⟩)
 all_goals (go_ret; refine ⟨ret_i ?_, rfl⟩; unfold cmpI; (repeat' split) <;> first | rfl | (exfalso; omega))
set_option maxRecDepth 100000 in
theorem truthP_any (b : Bool) (w : World) : Calls Tryz.prog 128 #[.bool b] w fun e w' => e = .returned (.int .i64 (if b = true then 1 else 0)) ∧ w' = w := by
 cases b
 all_goals
  go_enter Tryz.func128, Tryz.ntmps128
  go_wp2_with fail
  go_ret
  exact ⟨rfl, rfl⟩
set_option maxRecDepth 100000 in
set_option maxHeartbeats 1000000 in
theorem cmpStr_any (x y : ByteArray) (w : World) : Calls Tryz.prog 124 #[.string x, .string y] w fun e w' => e = .returned (.int .i64 (cmpS x.data.toList y.data.toList)) ∧ w' = w := by
 have hn := Lib.hid nanS_any
 have hs := Lib.hid (sign_text x y)
 obtain ⟨v, Hv⟩ := name_itV (cmpS x.data.toList y.data.toList)
 rw [Hv.out] at hs ⊢
 cases h1 : Op.bytesLess x.toList y.toList with
 | true =>
  rw [h1] at hs
  go_enter Tryz.func124, Tryz.ntmps124
  go_wp2_with (go_at_call 161; (with_reducible refine (hn.out _ _).mono ?_); rintro e w' ⟨rfl, rfl⟩)
  go_ret
  exact ⟨by rw [← hs.out]; rfl, rfl⟩
 | false =>
  cases h2 : (x.toList == y.toList) with
  | true =>
   rw [h1, h2] at hs
   go_enter Tryz.func124, Tryz.ntmps124
   go_wp2_with (go_at_call 161; (with_reducible refine (hn.out _ _).mono ?_); rintro e w' ⟨rfl, rfl⟩)
   go_ret
   exact ⟨by rw [← hs.out]; rfl, rfl⟩
  | false =>
   rw [h1, h2] at hs
   go_enter Tryz.func124, Tryz.ntmps124
   go_wp2_with (go_at_call 161; (with_reducible refine (hn.out _ _).mono ?_); rintro e w' ⟨rfl, rfl⟩)
   go_ret
   exact ⟨by rw [← hs.out]; rfl, rfl⟩
end Go.Proofs.YtijciakkfpjjbaaGreatDoor
namespace Go.Proofs.YtijciakkfpjjbaaGreatDoor
open Go Go.RowKit

set_option maxRecDepth 100000 in
set_option maxHeartbeats 2000000 in
theorem exact_any (v : Val) (s : Value) (h0 : -9223372036854775808 ≤ v.num) (h1 : v.num ≤ 9223372036854775807) (ht : v.text.size ≤ 4000000000000) (w : World) (hgb : GlobB w) (hgt : GlobT w) :
    Calls Tryz.prog 160 #[.agg (cellsV v s)] w (DecIs v w) := by
 have hof := Lib.hid (fun (W : World) (hW : Below w.heap.size w W) => ofInt_any v.num h0 h1 W (globT_under hgt hW))
 have hck := Lib.hid (fun (W : World) (hW : Below w.heap.size w W) => dec_any v.text (by omega) W (glob_under hgb hW))
 have hex := Lib.hid (show exactT v = if v.kind = 2 then ofIntT v.num else if decB v.text = true then v.text else zeroT from rfl)
 obtain ⟨x, Hx⟩ := name_itV (exactT v)
 have HE := Lib.hid (show ∀ w', Below w.heap.size w w' → DecIs v w (.returned (.string x)) w' from fun w' hb => ⟨by rw [Hx.out], hb⟩)
 obtain ⟨o, Ho⟩ := name_itV (ofIntT v.num)
 rw [Hx.out, Ho.out] at hex
 have HX2 := Lib.hid (fun h : v.kind = 2 => (show x = o from by rw [hex.out, if_pos h]))
 have HXT := Lib.hid (fun (h : v.kind ≠ 2) (hd : decB v.text = true) => (show x = v.text from by rw [hex.out, if_neg h, if_pos hd]))
 have HXF := Lib.hid (fun (h : v.kind ≠ 2) (hd : decB v.text = false) => (show x = ⟨#[48, 46, 48]⟩ from by rw [hex.out, if_neg h, if_neg (by rw [hd]; exact Bool.false_ne_true)]; rfl))
 clear hex
 have hof2 := Lib.hid (fun (W : World) (hW : Below w.heap.size w W) => (show Calls Tryz.prog 172 #[.int .i64 v.num] W (fun e w' => e = .returned (.string o) ∧ Below W.heap.size W w') from by rw [← Ho.out]; exact hof.out W hW))
 clear hof Hx Ho
 cases v with
 | mk k b n t x' l =>
 unfold cellsV
 simp only [Val.kind, Val.truth, Val.num, Val.text, Val.extra] at hof2 hck HX2 HXT HXF ⊢
 clear h0 h1 ht hgb hgt
 go_enter Tryz.func160, Tryz.ntmps160
 by_cases hk : k = 2
 ·have hx := Lib.hid (HX2.out hk)
  subst hk
  go_wp2_with fail
  refine (hof2.out _ ((Below.refl _ _).alloc (Nat.le_refl _) _)).mono ?_
  rintro e w1 ⟨rfl, hb⟩
  have HB := Lib.hid (((Below.refl w.heap.size w).alloc (Nat.le_refl _) (.cells #[.int .i64 2, .bool b, .int .i64 n, .string t, .string x', s] 34)).trans (hb.mono (by simp)))
  clear hb
  go_wp2_with fail
  go_ret
  have := HE.out _ HB.out
  rw [hx.out] at this
  exact this
 ·have e2 : (k == 2) = false := by simpa using hk
  have hx1 := Lib.hid (HXT.out hk)
  have hx0 := Lib.hid (HXF.out hk)
  clear hk HX2 HXT HXF
  go_wp2_with fail
  refine (hck.out _ ((Below.refl _ _).alloc (Nat.le_refl _) _)).mono ?_
  rintro e w1 ⟨rfl, hb⟩
  have c3 : w1.cell? ⟨w.heap.size, 3, none⟩ = some (.string t) := (hb.cell (p := ⟨w.heap.size, 3, none⟩) (by simp)).trans (Lib.cell_of_heap (heap_alloc_new w _) 3)
  have HB := Lib.hid (((Below.refl w.heap.size w).alloc (Nat.le_refl _) (.cells #[.int .i64 k, .bool b, .int .i64 n, .string t, .string x', s] 34)).trans (hb.mono (by simp)))
  clear hb
  obtain ⟨bd, Hbd⟩ := name_itV (decB t)
  rw [Hbd.out]
  cases bd with
  | true =>
   have hd := Hbd.out
   have hx2 := Lib.hid (show x = t from hx1.out hd)
   clear hd
   go_wp2_with fail
   go_ret
   have := HE.out _ HB.out
   rw [hx2.out] at this
   exact this
  | false =>
   have hd := Hbd.out
   have hx2 := Lib.hid (show x = ⟨#[48, 46, 48]⟩ from hx0.out hd)
   clear hd
   go_wp2_with fail
   go_ret
   have := HE.out _ HB.out
   rw [hx2.out] at this
   exact this
end Go.Proofs.YtijciakkfpjjbaaGreatDoor
namespace Go.Proofs.YtijciakkfpjjbaaGreatDoor
open Go Go.RowKit

def RankIs (k : Int) (w : World) (e : Ending) (w' : World) : Prop := e = .returned (.int .i64 (rankS k)) ∧ Below w.heap.size w w'
set_option maxRecDepth 100000 in
set_option maxHeartbeats 4000000 in
theorem rankP_any (v : Val) (s : Value) (w : World) : Calls Tryz.prog 121 #[.int .i64 1, .agg (cellsV v s)] w (RankIs v.kind w) := by
 have hb := Lib.hid (fun o : Obj => show Below w.heap.size w (w.alloc o) from (Below.refl _ _).alloc (Nat.le_refl _) _)
 cases v with
 | mk k b n t x l =>
 unfold cellsV
 simp only [Val.kind, Val.truth, Val.num, Val.text, Val.extra]
 by_cases h5 : k = 5
 ·subst h5
  go_enter Tryz.func121, Tryz.ntmps121
  go_wp2_with fail
  go_ret
  exact ⟨rfl, hb.out _⟩
 by_cases h6 : k = 6
 ·subst h6
  go_enter Tryz.func121, Tryz.ntmps121
  go_wp2_with fail
  go_ret
  exact ⟨rfl, hb.out _⟩
 by_cases h7 : k = 7
 ·subst h7
  go_enter Tryz.func121, Tryz.ntmps121
  go_wp2_with fail
  go_ret
  exact ⟨rfl, hb.out _⟩
 by_cases h9 : k = 9
 ·subst h9
  go_enter Tryz.func121, Tryz.ntmps121
  go_wp2_with fail
  go_ret
  exact ⟨rfl, hb.out _⟩
 by_cases h8 : k = 8
 ·subst h8
  go_enter Tryz.func121, Tryz.ntmps121
  go_wp2_with fail
  go_ret
  exact ⟨rfl, hb.out _⟩
 by_cases h10 : k = 10
 ·subst h10
  go_enter Tryz.func121, Tryz.ntmps121
  go_wp2_with fail
  go_ret
  exact ⟨rfl, hb.out _⟩
 by_cases h4 : k = 4
 ·subst h4
  go_enter Tryz.func121, Tryz.ntmps121
  go_wp2_with fail
  go_ret
  exact ⟨rfl, hb.out _⟩
 by_cases h1 : k = 1
 ·subst h1
  go_enter Tryz.func121, Tryz.ntmps121
  go_wp2_with fail
  go_ret
  exact ⟨rfl, hb.out _⟩
 by_cases h2 : k = 2
 ·subst h2
  go_enter Tryz.func121, Tryz.ntmps121
  go_wp2_with fail
  go_ret
  exact ⟨rfl, hb.out _⟩
 by_cases h3 : k = 3
 ·subst h3
  go_enter Tryz.func121, Tryz.ntmps121
  go_wp2_with fail
  go_ret
  exact ⟨rfl, hb.out _⟩
 by_cases h0 : k = 0
 ·subst h0
  go_enter Tryz.func121, Tryz.ntmps121
  go_wp2_with fail
  go_ret
  exact ⟨rfl, hb.out _⟩
 have hr := Lib.hid (show (11 : Int) = rankS k from by unfold rankS; rw [if_neg h5, if_neg h6, if_neg h7, if_neg h9, if_neg h8, if_neg h10, if_neg h4, if_neg h1, if_neg h2, if_neg h3, if_neg h0])
 have e5 : (k == 5) = false := by simpa using h5
 have e6 : (k == 6) = false := by simpa using h6
 have e7 : (k == 7) = false := by simpa using h7
 have e9 : (k == 9) = false := by simpa using h9
 have e8 : (k == 8) = false := by simpa using h8
 have e10 : (k == 10) = false := by simpa using h10
 have e4 : (k == 4) = false := by simpa using h4
 have e1 : (k == 1) = false := by simpa using h1
 have e2 : (k == 2) = false := by simpa using h2
 have e3 : (k == 3) = false := by simpa using h3
 have e0 : (k == 0) = false := by simpa using h0
 clear h5 h6 h7 h9 h8 h10 h4 h1 h2 h3 h0
 go_enter Tryz.func121, Tryz.ntmps121
 go_wp2_with fail
 go_ret
 exact ⟨ret_i hr.out, hb.out _⟩
end Go.Proofs.YtijciakkfpjjbaaGreatDoor
namespace Go.Proofs.YtijciakkfpjjbaaGreatDoor
open Go Go.RowKit

theorem cellsU_size (f : Nat → Nat) : (cellsU f).size = 16 := by unfold cellsU; simp
theorem cellsU_one (f : Nat → Nat) : (cellsU f).all (·.oneCell') = true := by
 rw [Array.all_eq_true_iff_forall_mem]
 intro v hv
 unfold cellsU at hv
 obtain ⟨i, hi, rfl⟩ := Array.mem_ofFn.1 hv
 rfl
/-- A number's cells. -/
def cellsN (n : Bool) (f : Nat → Nat) : Array Value := #[.bool n] ++ cellsU f
theorem cellsN_size (n : Bool) (f : Nat → Nat) : (cellsN n f).size = 17 := by unfold cellsN; rw [Array.size_append, cellsU_size]; rfl
/-- Names for cells. -/
structure EqN (c : Array Value) (n : Bool) (f : Nat → Nat) : Prop where
 out : cellsN n f = c
theorem nameN (n : Bool) (f : Nat → Nat) : ∃ c, EqN c n f := ⟨_, ⟨rfl⟩⟩
structure EqU (c : Array Value) (f : Nat → Nat) : Prop where
 out : cellsU f = c
theorem nameU (f : Nat → Nat) : ∃ c, EqU c f := ⟨_, ⟨rfl⟩⟩
theorem parse_digits (l : List UInt8) : ∀ acc : Nat, l.all digB = true → acc * 10 ^ l.length + digV l < 1844674407370955161 → Lib.parseUintM (2 ^ 64 - 1) acc l = .ok (acc * 10 ^ l.length + digV l) := by
 induction l with
 | nil => intro acc _ _; simp [Lib.parseUintM, digV]
 | cons c r ih =>
  intro acc hd hb
  rw [List.all_cons, Bool.and_eq_true, digB_iff] at hd
  have e : acc * 10 ^ (c :: r).length + digV (c :: r) = (acc * 10 + (c.toNat - 48)) * 10 ^ r.length + digV r := by
   have h1 := dig_append [c] r
   have h2 : digV [c] = c.toNat - 48 := by show 0 * 10 + (c.toNat - 48) = _; omega
   rw [List.singleton_append, h2] at h1
   rw [h1, List.length_cons, Nat.pow_succ, Nat.add_mul, Nat.mul_assoc, Nat.mul_comm 10, Nat.add_assoc]
  rw [e] at hb ⊢
  have hp : 1 ≤ 10 ^ r.length := Nat.one_le_pow _ _ (by decide)
  have h3 : (acc * 10 + (c.toNat - 48)) * 1 ≤ (acc * 10 + (c.toNat - 48)) * 10 ^ r.length := Nat.mul_le_mul_left _ hp
  have h64 : 2 ^ 64 - 1 = 18446744073709551615 := by decide
  unfold Lib.parseUintM
  rw [if_pos hd.1, if_neg (by omega), if_neg (by omega)]
  exact ih _ hd.2 hb
theorem dig_cons (c : UInt8) (r : List UInt8) : digV (c :: r) = (c.toNat - 48) * 10 ^ r.length + digV r := by
 have h1 := dig_append [c] r
 have h2 : digV [c] = c.toNat - 48 := by show 0 * 10 + (c.toNat - 48) = _; omega
 rw [List.singleton_append, h2] at h1
 exact h1
theorem dig_lt (l : List UInt8) (h : l.all digB = true) : digV l < 10 ^ l.length := by
 induction l with
 | nil => simp [digV]
 | cons c r ih =>
  rw [List.all_cons, Bool.and_eq_true, digB_iff] at h
  have h1 := ih h.2
  rw [dig_cons, List.length_cons, Nat.pow_succ]
  have h2 : (c.toNat - 48) * 10 ^ r.length ≤ 9 * 10 ^ r.length := Nat.mul_le_mul_right _ (by omega)
  omega
theorem parse_nine {l : List UInt8} (h : l.all digB = true) (h0 : 0 < l.length) (h9 : l.length ≤ 9) : Lib.parseUintB 64 l = .ok (digV l) := by
 unfold Lib.parseUintB
 rw [if_neg (fun e => by rw [e] at h0; simp at h0)]
 have h1 := dig_lt l h
 have h2 : 10 ^ l.length ≤ 10 ^ 9 := Nat.pow_le_pow_right (by decide) h9
 have h3 : (10 : Nat) ^ 9 = 1000000000 := by decide
 have h4 := parse_digits l 0 h (by omega)
 rw [Nat.zero_mul, Nat.zero_add] at h4
 exact h4
end Go.Proofs.YtijciakkfpjjbaaGreatDoor
namespace Go.Proofs.YtijciakkfpjjbaaGreatDoor
open Go Go.RowKit

theorem pu_any (s : ByteArray) (hs : s.data.toList.all digB = true) (h0 : 0 < s.size) (h9 : s.size ≤ 9) (w : World) :
    Calls Tryz.prog 204 #[.string s, .int .i64 10, .int .i64 64] w fun e w' => e = .returned (.tuple #[.int .u64 (digV s.data.toList : Int), .nilIface]) ∧ Below w.heap.size w w' :=
 (Any.strconv_ParseUint_10_at64_ok Tryz.laysPu14 s (by omega) (digV s.data.toList) (parse_nine hs h0 h9) w).mono fun e w' ⟨h1, h2⟩ => ⟨h1, by
  rcases h2 with rfl | rfl
  ·exact Below.refl _ _
  ·exact Lib.bytesWorld_below _ _ _⟩
theorem cellsU_set (f : Nat → Nat) {i : Nat} (hi : i < 16) (m : Nat) : (cellsU f).setIfInBounds i (.int .u64 (m : Int)) = cellsU (fun j => if j = i then m else f j) := by
 apply Array.ext_getElem?
 intro j
 rcases Nat.lt_or_ge j 16 with hj | hj
 ·have e1 := cellsU_at f hj
  have e2 := cellsU_at (fun j => if j = i then m else f j) hj
  rw [Array.getElem?_setIfInBounds, e1, e2, cellsU_size]
  by_cases e : i = j
  ·subst e
   rw [if_pos rfl, if_pos hi, if_pos rfl]
  ·rw [if_neg e, if_neg (fun e2 => e e2.symm)]
 ·rw [Array.getElem?_eq_none (by rw [Array.size_setIfInBounds, cellsU_size]; exact hj), Array.getElem?_eq_none (by rw [cellsU_size]; exact hj)]
theorem ext_from {s : ByteArray} (k : Nat) : (s.extract k s.size).data.toList = s.data.toList.drop k := by
 rw [ByteArray.data_extract, Array.toList_extract, List.extract_eq_take_drop]
 have hl : s.size = s.data.toList.length := (data_len s).symm
 rw [hl]
 apply List.take_of_length_le
 rw [List.length_drop]
 exact Nat.le_refl _
theorem ext_to {s : ByteArray} (k : Nat) : (s.extract 0 k).data.toList = s.data.toList.take k := by
 rw [ByteArray.data_extract, Array.toList_extract, List.extract_eq_take_drop, Nat.sub_zero, List.drop_zero]
/-- What 'wordsOf' tells. -/
def WordsIs (l : List UInt8) (w : World) (e : Ending) (w' : World) : Prop := ∃ f : Nat → Nat, e = .returned (.agg (cellsU f)) ∧ Below w.heap.size w w' ∧ (∀ i, i < 16 → f i < bW) ∧ pv f 16 = digV l
/-- Behind some words. -/
structure WordM (w : World) (z : Nat) (l : List UInt8) (i : Nat) (r : ByteArray) (f : Nat → Nat) (wx : World) : Prop where
 hb : Below w.heap.size w wx
 hz : w.heap.size = z
 h0 : wx.heap[z]? = some (.cells (cellsU (fun _ => 0)) 200 (0, 0))
 h1 : wx.heap[z + 1]? = some (.cells (cellsU f) 200 (0, 0))
 lo : ∀ j, j < i → f j < bW
 hi : ∀ j, i ≤ j → f j = 0
 dig : r.data.toList.all digB = true
 sz : r.size + 9 * i ≤ 144 ∨ r.size = 0
 val : pv f i + digV r.data.toList * bW ^ i = digV l
theorem pv_zeros {f : Nat → Nat} {i : Nat} (h : ∀ j, i ≤ j → f j = 0) : ∀ n, pv f (i + n) = pv f i := by
 intro n
 induction n with
 | zero => rfl
 | succ n ih =>
  show pv f (i + n) + f (i + n) * bW ^ (i + n) = pv f i
  rw [ih, h (i + n) (by omega)]
  simp
set_option maxRecDepth 100000 in
set_option maxHeartbeats 4000000 in
theorem wordsOf_any (s : ByteArray) (hs : s.data.toList.all digB = true) (hsz : s.size ≤ 144) (w : World) :
    Calls Tryz.prog 189 #[.string s] w (WordsIs s.data.toList w) := by
 obtain ⟨z, Hz⟩ := name_itV w.heap.size
 obtain ⟨w1, HW1⟩ := name_itV ((w.alloc (.cells #[.int .u64 0, .int .u64 0, .int .u64 0, .int .u64 0, .int .u64 0, .int .u64 0, .int .u64 0, .int .u64 0, .int .u64 0, .int .u64 0, .int .u64 0, .int .u64 0, .int .u64 0, .int .u64 0, .int .u64 0, .int .u64 0] 200)).alloc (.cells #[.int .u64 0, .int .u64 0, .int .u64 0, .int .u64 0, .int .u64 0, .int .u64 0, .int .u64 0, .int .u64 0, .int .u64 0, .int .u64 0, .int .u64 0, .int .u64 0, .int .u64 0, .int .u64 0, .int .u64 0, .int .u64 0] 200))
 have hzero : (#[.int .u64 0, .int .u64 0, .int .u64 0, .int .u64 0, .int .u64 0, .int .u64 0, .int .u64 0, .int .u64 0, .int .u64 0, .int .u64 0, .int .u64 0, .int .u64 0, .int .u64 0, .int .u64 0, .int .u64 0, .int .u64 0] : Array Value) = cellsU (fun _ => 0) := by kernel_rfl
 have HM := Lib.hid (show WordM w z s.data.toList 0 s (fun _ => 0) w1 from {
  hb := by rw [← HW1.out]; exact two_new w _ _
  hz := Hz.out
  h0 := by
   rw [← HW1.out, ← Hz.out, hzero, Below.heap_alloc _ _ _ (by simp)]
   exact heap_alloc_new w _
  h1 := by
   rw [← HW1.out, ← Hz.out, hzero]
   have := heap_alloc_new (w.alloc (.cells (cellsU (fun _ => 0)) 200)) (.cells (cellsU (fun _ => 0)) 200)
   simpa using this
  lo := fun j hj => absurd hj (Nat.not_lt_zero _)
  hi := fun _ _ => rfl
  dig := hs
  sz := .inl (by omega)
  val := by simp [pv] })
 clear hs hzero
 go_enter Tryz.func189, Tryz.ntmps189
 go_upto_region 2 with fail
 rw [HW1.out, Hz.out]
 go_wp2_with fail
 go_loopw [0, 4] (fun s0 s4 wx => ∃ (i : Nat) (r : ByteArray) (f : Nat → Nat), i ≤ 16 ∧ r.size ≤ 144 ∧ s0 = .string r ∧ s4 = .int .i64 (i : Nat) ∧ Hid (WordM w z s.data.toList i r f wx)) (fun _ s4 _ => 16 - (intOf s4).toNat)
 case atStart => exact ⟨0, s, _, by omega, hsz, rfl, rfl, HM⟩
 case round =>
  obtain ⟨i, r, f, hi, hrs, rfl, rfl, hM⟩ := hrel
  by_cases h0 : 0 < r.size
  ·have hi15 : i < 16 := by have := hM.out.sz; omega
   have e1 : (0 : Int) < (r.size : Int) := by omega
   have e2 : (0 : Int) ≤ i := by omega
   have e3 : (i : Int) < 16 := by omega
   have w0 : IntKind.i64.wrap ((r.size : Int) - 9) = (r.size : Int) - 9 := IntWalk.i64_in _ (by omega)
   have w1' : IntKind.i64.wrap ((i : Int) + 1) = (i : Int) + 1 := IntWalk.i64_in _ (by omega)
   obtain ⟨k, Hk⟩ := name_itV (r.size - 9)
   have hkr : k ≤ r.size := by rw [← Hk.out]; omega
   have hmx : max ((r.size : Int) - 9) 0 = (k : Int) := by rw [← Hk.out]; omega
   obtain ⟨c, Hc⟩ := name_itV (r.extract k r.size)
   have hcl : c.size = r.size - k := by rw [← Hc.out]; simp
   have hpu := Lib.hid (pu_any c (by
    rw [← Hc.out, ext_from, List.all_eq_true]
    exact fun x hx => List.all_eq_true.1 hM.out.dig x (List.mem_of_mem_drop hx)) (by rw [hcl, ← Hk.out]; omega) (by rw [hcl, ← Hk.out]; omega) wr)
   obtain ⟨m, Hm⟩ := name_itV (digV c.data.toList)
   rw [Hm.out] at hpu
   have HCV := Lib.hid (show m = digV (r.data.toList.drop (r.data.toList.length - 9)) from by rw [← Hm.out, ← Hc.out, ext_from, data_len, Hk.out])
   obtain ⟨r', Hr'⟩ := name_itV (r.extract 0 k)
   have HRV := Lib.hid (show r'.data.toList = r.data.toList.take (r.data.toList.length - 9) from by rw [← Hr'.out, ext_to, data_len, Hk.out])
   have HRS := Lib.hid (show r'.size = k from by rw [← Hr'.out]; simp; omega)
   have HKL := Lib.hid (show k = r.size - 9 from Hk.out.symm)
   have hcE := Hc.out
   have hrE := Hr'.out
   have a2 := add_zero_at' (z + 1) i
   clear hcl
   go_wp2_with fail
   refine hpu.out.mono ?_
   rintro e w2 ⟨rfl, hb2⟩
   have HB2 := Lib.hid hb2
   have HH1 := Lib.hid ((hb2.block (z + 1) (blk_lt hM.out.h1)).trans hM.out.h1)
   have HH0 := Lib.hid ((hb2.block z (blk_lt hM.out.h0)).trans hM.out.h0)
   have c1 : w2.cell? ⟨z + 1, i, none⟩ = some (.int .u64 (f i : Int)) := (Lib.cell_of_heap HH1.out i).trans (cellsU_at f hi15)
   have f1 : w2.frozen? ⟨z + 1, i, none⟩ = false := frozen_of_row _ _ _ _ _ HH1.out
   clear hb2
   go_wp2_with fail
   go_roundw
   case measure => simp [intOf]; omega
   case rel =>
    have hbw : 0 < bW := by decide
    refine ⟨i + 1, r', fun j => if j = i then m else f j, by omega, by rw [HRS.out]; omega, rfl, by go_num, Lib.hid ?_⟩
    have hlt : m < bW := by
     rw [HCV.out]
     refine Nat.lt_of_lt_of_le (dig_lt _ ?_) (show 10 ^ _ ≤ 10 ^ 9 from Nat.pow_le_pow_right (by decide) (by rw [List.length_drop]; omega))
     rw [List.all_eq_true]
     exact fun x hx => List.all_eq_true.1 hM.out.dig x (List.mem_of_mem_drop hx)
    exact {
     hb := hM.out.hb.trans (((HB2.out.mono hM.out.hb.size)).setCell (by show w.heap.size ≤ z + 1; have := hM.out.hz; omega) _)
     hz := hM.out.hz
     h0 := by rw [heap_setCell_other _ _ _ _ (by show z ≠ z + 1; omega)]; exact HH0.out
     h1 := by rw [heap_setCell_same _ _ _ _ _ _ HH1.out, cellsU_set f hi15]
     lo := fun j hj => by
      by_cases e : j = i
      ·simp only [if_pos e]; exact hlt
      ·simp only [if_neg e]; exact hM.out.lo j (by omega)
     hi := fun j hj => by
      simp only [if_neg (show j ≠ i by omega)]
      exact hM.out.hi j (by omega)
     dig := by
      rw [HRV.out, List.all_eq_true]
      exact fun x hx => List.all_eq_true.1 hM.out.dig x (List.mem_of_mem_take hx)
     sz := by rw [HRS.out]; have := HKL.out; have := hM.out.sz; omega
     val := by
      rw [HRV.out]
      exact pv_chunk (by rw [← hM.out.val]; congr 1; exact pv_congr (fun j hj => if_neg (by omega))) (by
       show (if i = i then m else f i) = _
       rw [if_pos rfl]
       exact HCV.out) }
  ·have hr0 : r.size = 0 := by omega
   have e1 : ¬ (0 : Int) < (r.size : Int) := by omega
   have hir0 : r.data.toList = [] := List.eq_nil_of_length_eq_zero ((data_len r).trans hr0)
   have HV := Lib.hid (show pv f 16 = digV s.data.toList from by
    have h1 := hM.out.val
    rw [hir0] at h1
    have h2 := pv_zeros hM.out.hi (16 - i)
    rw [show i + (16 - i) = 16 by omega] at h2
    rw [h2, ← h1]
    simp [digV])
   have HF := Lib.hid (show ∀ j, j < 16 → f j < bW from fun j hj => by
    rcases Nat.lt_or_ge j i with h | h
    ·exact hM.out.lo j h
    ·rw [hM.out.hi j h]; decide)
   clear h0 hir0
   go_wp2_with (first
    | (refine wpList_load_row rfl 200 _ rfl (z + 1) rfl 200 (cellsU f) (0, 0) (.array 16 142) hM.out.h1 (by kernel_rfl) rfl (by rw [cellsU_size]; kernel_rfl) ?_)
    | (refine st_row rfl 200 _ _ rfl z (cellsU (fun _ => 0)) (cellsU f) 200 rfl rfl hM.out.h0 (by rw [cellsU_size, cellsU_size]) (by rw [cellsU_size]; kernel_rfl) (cellsU_one f) ?_; intro wf hgf htf))
   refine bodyPost_ret (v := .agg (cellsU f)) (results_cell_row (p := 2) (ty := 200) (by kernel_rfl) _ _ z 200 (cellsU f) (0, 0) (.array 16 142) rfl hgf (by kernel_rfl) rfl (by rw [cellsU_size]; kernel_rfl)) rfl ⟨f, rfl, ?_, HF.out, HV.out⟩
   exact hM.out.hb.trans (htf.below (fun b _ h => by have := hM.out.hz; omega) hM.out.hb.size)
end Go.Proofs.YtijciakkfpjjbaaGreatDoor
namespace Go.Proofs.YtijciakkfpjjbaaGreatDoor
open Go Go.RowKit

theorem cellsN_one (n : Bool) (f : Nat → Nat) : (cellsN n f).all (·.oneCell') = true := by
 have h := Array.all_eq_true_iff_forall_mem.1 (cellsU_one f)
 rw [Array.all_eq_true_iff_forall_mem]
 intro v hv
 unfold cellsN at hv
 rw [Array.mem_append] at hv
 rcases hv with hv | hv
 ·simp at hv; subst hv; rfl
 ·exact h v hv
theorem built_num (n : Bool) (f : Nat → Nat) (w : World) : (Instr.build 202 #[(0, .bool n), (1, .agg (cellsU f))]).run Tryz.prog w = .ok (.agg (cellsN n f)) w :=
 run_build w _ _ _ (by kernel_rfl)
/-- What 'load' tells of a decimal. -/
def LoadIs (s : ByteArray) (w : World) (e : Ending) (w' : World) : Prop := ∃ f : Nat → Nat, e = .returned (.tuple #[.agg (cellsN (sgnB s) f), .bool true]) ∧ Below w.heap.size w w' ∧ (∀ i, i < 16 → f i < bW) ∧ decN s = sgV (sgnB s) (pv f 16)
theorem digits_pad {a b : List UInt8} (ha : a.all digB = true) (hb : b.all digB = true) (k : Nat) : ((a ++ b) ++ List.replicate k 48).all digB = true := by
 rw [List.all_append, List.all_append, ha, hb, Bool.true_and, Bool.true_and, List.all_eq_true]
 intro x hx
 rw [List.eq_of_mem_replicate hx]
 decide
set_option maxRecDepth 100000 in
set_option maxHeartbeats 4000000 in
theorem load_any (s : ByteArray) (hs : decB s = true) (w : World) (hg : GlobB w) :
    Calls Tryz.prog 178 #[.string s] w (LoadIs s w) := by
 obtain ⟨neg, a, b, hsh⟩ := dec_shape hs
 obtain ⟨hsg, hst⟩ := sgn_of hsh
 have hsz : s.size ≤ 62 := by
  rcases Nat.lt_or_ge 62 s.size with h | h
  ·have := dec_long h; rw [hs] at this; cases this
  ·exact h
 have hs0 : 0 < s.size := by
  have h1 : s.size = s.data.toList.length := (data_len s).symm
  rw [h1, hsh.eq, List.length_append, List.length_append, List.length_cons]
  omega
 have hfirst : s[0].toNat = 45 ↔ neg = true := by
  have h2 : s.data.toList.head? = some s[0] := by rw [List.head?_eq_getElem?]; exact data_at s 0 hs0
  have h3 : sgnB s = (some s[0] == some (45 : UInt8)) := by unfold sgnB; rw [h2]
  rw [hsg] at h3
  constructor
  ·intro h
   have : s[0] = 45 := UInt8.toNat_inj.1 h
   rw [h3, this]; rfl
  ·intro h
   rw [h] at h3
   have : s[0] = 45 := by simpa using h3.symm
   rw [this]; rfl
 obtain ⟨t, Ht⟩ := name_itV (sgnT s)
 rw [Ht.out] at hst
 have htx : neg = true → s.extract 1 s.size = t := fun h => by
  have h1 := (sgn_min hs0 (hfirst.2 h)).2.2
  rw [← Ht.out, h1]
 have htn : neg = false → s = t := fun h => by
  apply ByteArray.ext
  apply Array.toList_inj.1
  rw [hst, hsh.eq, h]
  rfl
 have hts : t.size = a.length + (b.length + 1) := by
  show t.data.toList.length = _
  rw [hst, List.length_append, List.length_cons]
 have HSH := Lib.hid hsh
 have HSG := Lib.hid hsg
 have HDEC := Lib.hid (fun (W : World) (hW : GlobB W) => dec_any s (by omega) W hW)
 rw [hs] at HDEC
 have HCUT := Lib.hid (fun (W : World) (hW : GlobB W) => show Calls Tryz.prog 174 #[.string t, .string ⟨#[46]⟩] W fun e w' => e = .returned (.tuple #[.string (bK a), .string (bK b), .bool true]) ∧ ∃ n, w' = W.drewN n from by
  obtain ⟨m, hm⟩ := hW
  have := cut_any t ⟨#[46]⟩ m W (by have := hsh.la; have := hsh.lb; omega) hm
  rw [hst, cut_yes (no46 hsh.da)] at this
  exact this)
 have hbl : (bK b).size = b.length := bK_size b
 have hal : (bK a).size = a.length := bK_size a
 have hlb := hsh.lb
 have hla := hsh.la
 obtain ⟨k, Hk⟩ := name_itV (20 - b.length)
 have HREP := Lib.hid (fun (W : World) => show Calls Tryz.prog 186 #[.string ⟨#[48]⟩, .int .i64 (k : Int)] W fun e w' => e = .returned (.string (bK (List.replicate k 48))) ∧ Below W.heap.size W w' from by
  have := repeat_any ⟨#[48]⟩ k W (by rw [← Hk.out]; omega) (by rw [← Hk.out]; show 1 * (20 - b.length) ≤ _; omega)
  have e : Lib.repeatL (⟨#[48]⟩ : ByteArray).data.toList k = List.replicate k 48 := repeat_zero k
  rw [e] at this
  exact this)
 have HWO := Lib.hid (fun (W : World) => wordsOf_any (bK ((a ++ b) ++ List.replicate k 48)) (by rw [bK_data]; exact digits_pad hsh.da hsh.db k) (by rw [bK_size, List.length_append, List.length_append, List.length_replicate, ← Hk.out]; omega) W)
 have hadd1 : ∀ W : World, (Op.stringOp .add (bK a) (bK b)).run Tryz.prog W = .ok (.string (bK (a ++ b))) W := fun W => by
  rw [← bK_app]
  exact run_string_add_sum W _ _ (by rw [hbl, hal]; omega)
 have hadd2 : ∀ W : World, (Op.stringOp .add (bK (a ++ b)) (bK (List.replicate k 48))).run Tryz.prog W = .ok (.string (bK ((a ++ b) ++ List.replicate k 48))) W := fun W => by
  rw [show bK ((a ++ b) ++ List.replicate k 48) = bK (a ++ b) ++ bK (List.replicate k 48) from by rw [bK_app]]
  exact run_string_add_sum W _ _ (by rw [bK_size, bK_size, List.length_append, List.length_replicate, ← Hk.out]; omega)
 have hsub : IntKind.i64.wrap (20 - (b.length : Int)) = (k : Int) := by
  rw [IntWalk.i64_in _ (by omega), ← Hk.out]; omega
 have hsub2 : (20 : Int) - (b.length : Int) = (k : Int) := by rw [← Hk.out]; omega
 have HVAL := Lib.hid (show digV ((a ++ b) ++ List.replicate k 48) = digV (a ++ b) * 10 ^ (20 - b.length) from by rw [dig_pad, Hk.out])
 have hdata := Lib.hid (bK_data ((a ++ b) ++ List.replicate k 48))
 obtain ⟨S3, HS3⟩ := name_itV (bK ((a ++ b) ++ List.replicate k 48))
 obtain ⟨S2, HS2⟩ := name_itV (bK (List.replicate k 48))
 obtain ⟨S1, HS1⟩ := name_itV (bK (a ++ b))
 obtain ⟨Sa, HSa⟩ := name_itV (bK a)
 obtain ⟨Sb, HSb⟩ := name_itV (bK b)
 rw [HS3.out] at HWO hadd2 hdata
 rw [HS2.out] at HREP hadd2
 rw [HS1.out] at hadd1 hadd2
 rw [HSa.out] at HCUT hadd1
 rw [HSb.out] at HCUT hadd1 hbl
 obtain ⟨z, Hz⟩ := name_itV w.heap.size
 obtain ⟨w1, HW1⟩ := name_itV (w.alloc (.cells #[.bool false, .int .u64 0, .int .u64 0, .int .u64 0, .int .u64 0, .int .u64 0, .int .u64 0, .int .u64 0, .int .u64 0, .int .u64 0, .int .u64 0, .int .u64 0, .int .u64 0, .int .u64 0, .int .u64 0, .int .u64 0, .int .u64 0] 202))
 have hzero : (#[.bool false, .int .u64 0, .int .u64 0, .int .u64 0, .int .u64 0, .int .u64 0, .int .u64 0, .int .u64 0, .int .u64 0, .int .u64 0, .int .u64 0, .int .u64 0, .int .u64 0, .int .u64 0, .int .u64 0, .int .u64 0, .int .u64 0] : Array Value) = cellsN false (fun _ => 0) := by kernel_rfl
 have HB1 := Lib.hid (show Below w.heap.size w w1 from by rw [← HW1.out]; exact (Below.refl _ w).alloc (Nat.le_refl _) _)
 have HX1 := Lib.hid (show w1.heap[z]? = some (.cells (cellsN false (fun _ => 0)) 202 (0, 0)) from by
  rw [← HW1.out, ← Hz.out, hzero]
  exact heap_alloc_new w _)
 have HG1 := Lib.hid (glob_under hg HB1.out)
 clear hsh hsg hg hs hzero hal hst hts hla hlb
 go_enter Tryz.func178, Tryz.ntmps178
 go_upto_region 1 with fail
 rw [HW1.out, Hz.out]
 go_wp2_with fail
 refine (HDEC.out w1 HG1.out).mono ?_
 rintro e w2 ⟨rfl, hb2⟩
 have HB2 := Lib.hid (HB1.out.trans (hb2.mono HB1.out.size))
 have HX2 := Lib.hid ((hb2.block z (blk_lt HX1.out)).trans HX1.out)
 have HG2 := Lib.hid (glob_under HG1.out hb2)
 clear hb2
 have e1 : ((s[0].toNat : Int) == 45) = neg := by
  cases neg with
  | true => simp; have := hfirst.2 rfl; omega
  | false => simp; intro h; have := hfirst.1 (by omega); cases this
 go_upto_if 15 with fail
 go_cut [0] (fun s0 wx => s0 = .string t ∧ wx = w2)
 case first =>
  cases neg with
  | true =>
   have hx := Lib.hid (htx rfl)
   go_wp2_with fail
   go_meet
   exact ⟨rfl, rfl⟩
  | false =>
   have hx := Lib.hid (htn rfl)
   go_wp2_with fail
   go_meet
   exact ⟨rfl, rfl⟩
 case rest =>
  obtain ⟨h0, rfl⟩ := hcut
  subst h0
  go_wp2_with fail
  refine (HCUT.out wc HG2.out).mono ?_
  rintro e w3 ⟨rfl, q3, hw3⟩
  have HX3 := Lib.hid (show w3.heap[z]? = some (.cells (cellsN false (fun _ => 0)) 202 (0, 0)) from by rw [hw3]; exact HX2.out)
  have HB3 := Lib.hid (show Below w.heap.size w w3 from by rw [hw3]; exact below_drewN HB2.out q3)
  clear hw3
  go_wp2_with fail
  refine (HREP.out w3).mono ?_
  rintro e w4 ⟨rfl, hb4⟩
  have HX4 := Lib.hid ((hb4.block z (blk_lt HX3.out)).trans HX3.out)
  have HB4 := Lib.hid (HB3.out.trans (hb4.mono HB3.out.size))
  clear hb4
  go_wp2_with fail
  refine (HWO.out w4).mono ?_
  rintro e w5 ⟨f, rfl, hb5, hf5, hv5⟩
  have HX5 := Lib.hid ((hb5.block z (blk_lt HX4.out)).trans HX4.out)
  have HB5 := Lib.hid (HB4.out.trans (hb5.mono HB4.out.size))
  have HF5 := Lib.hid hf5
  have HV5 := Lib.hid hv5
  clear hb5 hf5 hv5
  dsimp only
  rename_i hK
  refine hK _ _ ?_
  refine build_arm rfl 202 _ rfl #[(0, .bool neg), (1, .agg (cellsU f))] (by kernel_rfl) (.agg (cellsN neg f)) (built_num neg f _) ?_
  refine st_row rfl 202 _ _ rfl z (cellsN false (fun _ => 0)) (cellsN neg f) 202 rfl rfl HX5.out (by rw [cellsN_size, cellsN_size]) (by rw [cellsN_size]; kernel_rfl) (cellsN_one neg f) ?_
  intro wf hgf htf
  go_wp2_with fail
  have hld := run_loadVar_row (P := Tryz.prog) wf z 202 202 (cellsN neg f) (0, 0) _ hgf Tryz.underlying202 rfl (by rw [cellsN_size]; kernel_rfl)
  have hsh := HSH.out
  refine bodyPost_ret (v := .tuple #[.agg (cellsN neg f), .bool true]) (by simp [results, Tryz.results178, asAddr, hld]) rfl ⟨f, by rw [HSG.out], ?_, HF5.out, ?_⟩
  ·exact HB5.out.trans (htf.below (fun b _ h => by have := Hz.out; omega) HB5.out.size)
  ·rw [HSG.out, decN_of hsh, HV5.out, hdata.out, HVAL.out]
   rfl
end Go.Proofs.YtijciakkfpjjbaaGreatDoor
namespace Go.Proofs.YtijciakkfpjjbaaGreatDoor
open Go Go.RowKit

def zeroN : Array Value := #[.bool false, .int .u64 0, .int .u64 0, .int .u64 0, .int .u64 0, .int .u64 0, .int .u64 0, .int .u64 0, .int .u64 0, .int .u64 0, .int .u64 0, .int .u64 0, .int .u64 0, .int .u64 0, .int .u64 0, .int .u64 0, .int .u64 0]
def NumIs (s : ByteArray) (f : Nat → Nat) : Prop := (∀ i, i < 16 → f i < bW) ∧ decN s = sgV (sgnB s) (pv f 16)
def BothIs (s t : ByteArray) (w : World) (e : Ending) (w' : World) : Prop := ∃ f g : Nat → Nat, e = .returned (.tuple #[.agg (cellsN (sgnB s) f), .agg (cellsN (sgnB t) g), .bool true]) ∧ Below w.heap.size w w' ∧ NumIs s f ∧ NumIs t g
abbrev numB (c : Array Value) : Obj := .cells c 202 (0, 0)
set_option maxRecDepth 100000 in
set_option maxHeartbeats 4000000 in
theorem both_any (s t : ByteArray) (hs : decB s = true) (ht : decB t = true) (w : World) (hg : GlobB w) :
    Calls Tryz.prog 170 #[.string s, .string t] w (BothIs s t w) := by
 obtain ⟨z, Hz⟩ := name_itV w.heap.size
 obtain ⟨w1, HW1⟩ := name_itV ((w.alloc (.cells #[.bool false, .int .u64 0, .int .u64 0, .int .u64 0, .int .u64 0, .int .u64 0, .int .u64 0, .int .u64 0, .int .u64 0, .int .u64 0, .int .u64 0, .int .u64 0, .int .u64 0, .int .u64 0, .int .u64 0, .int .u64 0, .int .u64 0] 202)).alloc (.cells #[.bool false, .int .u64 0, .int .u64 0, .int .u64 0, .int .u64 0, .int .u64 0, .int .u64 0, .int .u64 0, .int .u64 0, .int .u64 0, .int .u64 0, .int .u64 0, .int .u64 0, .int .u64 0, .int .u64 0, .int .u64 0, .int .u64 0] 202))
 have HB1 := Lib.hid (show Below w.heap.size w w1 from by rw [← HW1.out]; exact two_new w _ _)
 have HX1 := Lib.hid (show w1.heap[z]? = some (numB zeroN) from by
  rw [← HW1.out, ← Hz.out]
  exact heap_alloc2_old w _ _)
 have HY1 := Lib.hid (show w1.heap[z + 1]? = some (numB zeroN) from by
  rw [← HW1.out, ← Hz.out]
  exact heap_alloc2_new w _ _)
 have HG1 := Lib.hid (glob_under hg HB1.out)
 have HS := Lib.hid (fun (W : World) (hW : GlobB W) => load_any s hs W hW)
 have HT := Lib.hid (fun (W : World) (hW : GlobB W) => load_any t ht W hW)
 clear hg
 go_enter Tryz.func170, Tryz.ntmps170
 go_upto_region 1 with fail
 rw [HW1.out, Hz.out]
 go_wp2_with fail
 refine (HS.out w1 HG1.out).mono ?_
 rintro e w2 ⟨f, rfl, hb2, hf2, hd2⟩
 have HNF := Lib.hid (show NumIs s f from ⟨hf2, hd2⟩)
 have HB12 := Lib.hid hb2
 obtain ⟨n1, Hn1⟩ := name_itV (sgnB s)
 rw [Hn1.out]
 obtain ⟨za, Hza⟩ := name_itV w2.heap.size
 obtain ⟨w3, HW3⟩ := name_itV (w2.alloc (.cells #[.bool false, .int .u64 0, .int .u64 0, .int .u64 0, .int .u64 0, .int .u64 0, .int .u64 0, .int .u64 0, .int .u64 0, .int .u64 0, .int .u64 0, .int .u64 0, .int .u64 0, .int .u64 0, .int .u64 0, .int .u64 0, .int .u64 0] 202))
 have HX3 := Lib.hid (show w3.heap[za]? = some (numB zeroN) from by rw [← HW3.out, ← Hza.out]; exact heap_alloc_new w2 _)
 have HB23 := Lib.hid (show Below w2.heap.size w2 w3 from by rw [← HW3.out]; exact (Below.refl _ _).alloc (Nat.le_refl _) _)
 clear hb2 hf2 hd2
 have HWz := Lib.hid (And.intro HW3.out Hza.out)
 go_wp2_with (first
  | (refine st_row (op := ⟨none, _, _, _, _, _⟩) rfl 202 _ _ rfl w2.heap.size zeroN (cellsN n1 f) 202 rfl rfl (by have h := HX3.out; rw [← HWz.out.1, ← HWz.out.2] at h; exact h) (by rw [cellsN_size]; rfl) (by rw [cellsN_size]; kernel_rfl) (cellsN_one n1 f) ?_; intro w4 hg4 ht4; rw [HWz.out.1] at ht4; rw [HWz.out.2] at ht4 hg4 ⊢))
 have HB34 := Lib.hid (ht4.below (B := w2.heap.size) (fun b _ h => by have := Hza.out; omega) HB23.out.size)
 have HB14 := Lib.hid (HB12.out.trans ((HB23.out.trans HB34.out).mono HB12.out.size))
 have HA4 := Lib.hid hg4
 clear hg4 ht4
 refine (HT.out w4 (glob_under HG1.out HB14.out)).mono ?_
 rintro e w5 ⟨g, rfl, hb5, hf5, hd5⟩
 have HNG := Lib.hid (show NumIs t g from ⟨hf5, hd5⟩)
 have HB45 := Lib.hid hb5
 obtain ⟨n2, Hn2⟩ := name_itV (sgnB t)
 rw [Hn2.out]
 obtain ⟨zb, Hzb⟩ := name_itV w5.heap.size
 obtain ⟨w6, HW6⟩ := name_itV (w5.alloc (.cells #[.bool false, .int .u64 0, .int .u64 0, .int .u64 0, .int .u64 0, .int .u64 0, .int .u64 0, .int .u64 0, .int .u64 0, .int .u64 0, .int .u64 0, .int .u64 0, .int .u64 0, .int .u64 0, .int .u64 0, .int .u64 0, .int .u64 0] 202))
 have HX6 := Lib.hid (show w6.heap[zb]? = some (numB zeroN) from by rw [← HW6.out, ← Hzb.out]; exact heap_alloc_new w5 _)
 have HB56 := Lib.hid (show Below w5.heap.size w5 w6 from by rw [← HW6.out]; exact (Below.refl _ _).alloc (Nat.le_refl _) _)
 clear hb5 hf5 hd5
 have HWz6 := Lib.hid (And.intro HW6.out Hzb.out)
 go_upto_region 3 with (first
  | (refine st_row (op := ⟨none, _, _, _, _, _⟩) rfl 202 _ _ rfl w5.heap.size zeroN (cellsN n2 g) 202 rfl rfl (by have h := HX6.out; rw [← HWz6.out.1, ← HWz6.out.2] at h; exact h) (by rw [cellsN_size]; rfl) (by rw [cellsN_size]; kernel_rfl) (cellsN_one n2 g) ?_; intro w7 hg7 ht7; rw [HWz6.out.1] at ht7; rw [HWz6.out.2] at ht7 hg7 ⊢))
 have HB67 := Lib.hid (ht7.below (B := w5.heap.size) (fun b _ h => by have := Hzb.out; omega) HB56.out.size)
 have HB47 := Lib.hid (HB45.out.trans ((HB56.out.trans HB67.out).mono HB45.out.size))
 have HB17 := Lib.hid (HB14.out.trans (HB47.out.mono HB14.out.size))
 have HA7 := Lib.hid ((HB47.out.block za (blk_lt HA4.out)).trans HA4.out)
 have HX7 := Lib.hid ((HB17.out.block z (blk_lt HX1.out)).trans HX1.out)
 have HY7 := Lib.hid ((HB17.out.block (z + 1) (blk_lt HY1.out)).trans HY1.out)
 have HV7 := Lib.hid hg7
 have HB7 := Lib.hid (HB1.out.trans (HB17.out.mono HB1.out.size))
 have hne := Lib.hid (show z + 1 < za ∧ za < zb from ⟨by have h1 := blk_lt HY1.out; have h2 := HB12.out.size; have := Hza.out; omega, by have h1 := blk_lt HA4.out; have h2 := HB45.out.size; have := Hzb.out; omega⟩)
 clear hg7 ht7
 have z1 := cellsN_size n1 f
 have z2 := cellsN_size n2 g
 have o1 := cellsN_one n1 f
 have o2 := cellsN_one n2 g
 obtain ⟨c1, Hc1⟩ := name_itV (cellsN n1 f)
 obtain ⟨c2, Hc2⟩ := name_itV (cellsN n2 g)
 rw [Hc1.out] at HA7 z1 o1 ⊢
 rw [Hc2.out] at HV7 z2 o2 ⊢
 have z1 := Lib.hid z1
 have z2 := Lib.hid z2
 have o1 := Lib.hid o1
 have o2 := Lib.hid o2
 have s1 := Lib.hid (show w7.drew.heap[za]? = some (numB c1) ∧ w7.drew.heap[zb]? = some (numB c2) from ⟨HA7.out, HV7.out⟩)
 refine wp_region_held_drew (S := fun W' => W'.heap[za]? = some (numB c1) ∧ W'.heap[zb]? = some (numB c2)) (by kernel_rfl) s1.out (fun hHeld => ?_)
 refine Boxed.out ?_
 refine take_want 0 21 (.agg c1) (by kernel_rfl) (by rfl) (by kernel_rfl) (by kernel_rfl) (by kernel_rfl) (fun _ _ _ h => h) hHeld (fun w hSw => ?_) (fun hHeld => ?_)
 ·exact val_of (ld_run hSw.1 202 _ Tryz.underlying202 rfl (by rw [z1.out]; kernel_rfl))
 simp only [Act.put, List.setIfInBounds_toArray, List.set_cons_zero, List.set_cons_succ]
 refine take_want 1 22 (.agg c2) (by kernel_rfl) (by rfl) (by kernel_rfl) (by kernel_rfl) (by kernel_rfl) (fun _ _ _ h => h) hHeld (fun w hSw => ?_) (fun hHeld => ?_)
 ·exact val_of (ld_run hSw.2 202 _ Tryz.underlying202 rfl (by rw [z2.out]; kernel_rfl))
 simp only [Act.put, List.setIfInBounds_toArray, List.set_cons_zero, List.set_cons_succ]
 refine take_want 2 23 (.bool true) (by kernel_rfl) (by rfl) (by kernel_rfl) (by kernel_rfl) (by kernel_rfl) (fun _ _ _ h => h) hHeld (fun w hSw => ?_) (fun hHeld => ?_)
 ·unfold runsTo
  go_simp
 simp only [Act.put, List.setIfInBounds_toArray, List.set_cons_zero, List.set_cons_succ]
 refine take_want 3 24 (.bool true) (by kernel_rfl) (by rfl) (by kernel_rfl) (by kernel_rfl) (by kernel_rfl) (fun _ _ _ h => h) hHeld (fun w hSw => ?_) (fun hHeld => ?_)
 ·unfold runsTo
  go_simp
 simp only [Act.put, List.setIfInBounds_toArray, List.set_cons_zero, List.set_cons_succ]
 refine take_want 4 25 (.bool true) (by kernel_rfl) (by rfl) (by kernel_rfl) (by kernel_rfl) (by kernel_rfl) (fun _ _ _ h => h) hHeld (fun w hSw => ?_) (fun hHeld => ?_)
 ·unfold runsTo
  go_simp
 simp only [Act.put, List.setIfInBounds_toArray, List.set_cons_zero, List.set_cons_succ]
 refine take_want 5 26 (.bool true) (by kernel_rfl) (by rfl) (by kernel_rfl) (by kernel_rfl) (by kernel_rfl) (fun _ _ _ h => h) hHeld (fun w hSw => ?_) (fun hHeld => ?_)
 ·unfold runsTo
  go_simp
 simp only [Act.put, List.setIfInBounds_toArray, List.set_cons_zero, List.set_cons_succ]
 refine take_call 6 (by kernel_rfl) (by rfl) (fun K hK => ?_)
 change Oper.wp _ ⟨none, _, _, _, _, _⟩ _ _ _ _
 refine st_rowW 202 _ _ rfl z zeroN c1 202 rfl rfl HX7.out z1.out (by rw [z1.out]; kernel_rfl) (o1.out) ?_
 intro w8 hg8 ht8
 have HS8 := Lib.hid (show w8.heap[za]? = some (numB c1) ∧ w8.heap[zb]? = some (numB c2) from ⟨ht8.heap s1.out.1 (by have := hne.out; omega), ht8.heap s1.out.2 (by have := hne.out; omega)⟩)
 have HO8 := Lib.hid (show w8.heap[(z + 1)]? = some (numB zeroN) from ht8.heap (show w7.drew.heap[(z + 1)]? = _ from HY7.out) (by omega))
 refine hK.out _ _ HS8.out (fun hHeld => ?_)
 clear hK K
 try simp only [Act.put]
 refine take_call 7 (by kernel_rfl) (by rfl) (fun K hK => ?_)
 change Oper.wp _ ⟨none, _, _, _, _, _⟩ _ _ _ _
 refine st_rowW 202 _ _ rfl (z + 1) zeroN c2 202 rfl rfl HO8.out z2.out (by rw [z2.out]; kernel_rfl) (o2.out) ?_
 intro w9 hg9 ht9
 have HS9 := Lib.hid (show w9.heap[za]? = some (numB c1) ∧ w9.heap[zb]? = some (numB c2) from ⟨ht9.heap HS8.out.1 (by have := hne.out; omega), ht9.heap HS8.out.2 (by have := hne.out; omega)⟩)
 have HA9 := Lib.hid (show w9.heap[z]? = some (numB c1) from ht9.heap hg8 (by omega))
 have HT9 := Lib.hid (show Turn (fun b => b = z ∨ b = z + 1) w7 w9 from (show Turn _ w7 w7.drew from (Turn.refl _ _).drew).trans ((ht8.mono (fun b _ h => by have h : b = z := h; omega)).andThen (ht9.mono (S' := fun b => b = z ∨ b = z + 1) (fun b _ h => by have h : b = (z + 1) := h; omega)) (fun b _ h => h)))
 have HG9 := Lib.hid hg9
 refine hK.out _ _ HS9.out (fun hHeld => ?_)
 clear hK K hg8 ht8 hg9 ht9
 try simp only [Act.put]
 refine take_want 8 6 (.bool true) (by kernel_rfl) (by rfl) (by kernel_rfl) (by kernel_rfl) (by kernel_rfl) (fun _ _ _ h => h) hHeld (fun w hSw => ?_) (fun hHeld => ?_)
 ·unfold runsTo
  go_simp
 simp only [Act.put, List.setIfInBounds_toArray, List.set_cons_zero, List.set_cons_succ]
 refine ⟨wpAnyH_done (by kernel_rfl) ?_ _⟩
 clear hHeld
 go_wp2_with fail
 have hl1 := run_loadVar_row (P := Tryz.prog) w9 z 202 202 c1 (0, 0) _ HA9.out Tryz.underlying202 rfl (by rw [z1.out]; kernel_rfl)
 have hl2 := run_loadVar_row (P := Tryz.prog) w9 (z + 1) 202 202 c2 (0, 0) _ HG9.out Tryz.underlying202 rfl (by rw [z2.out]; kernel_rfl)
 refine bodyPost_ret (v := .tuple #[.agg c1, .agg c2, .bool true]) (by simp [results, Tryz.results170, asAddr, hl1, hl2]) rfl ⟨f, g, by rw [Hn1.out, Hn2.out, Hc1.out, Hc2.out], ?_, HNF.out, HNG.out⟩
 exact HB7.out.trans (HT9.out.below (fun b _ h => by have := Hz.out; omega) HB7.out.size)
end Go.Proofs.YtijciakkfpjjbaaGreatDoor
