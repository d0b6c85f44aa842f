/- An IRI's value; three triples, their store, a cursor's way through it: printed by gen_XT.py. -/
import Derived.Test.YtijciakkfpjjbaaGreatDoorMF
namespace Go.Proofs.YtijciakkfpjjbaaGreatDoor
open Go Go.RowKit Go.Maps

def iriV (t : ByteArray) : Val := .mk 8 false 0 t ⟨#[]⟩ []
def wk1 : Trip := ⟨iriV ⟨#[97]⟩, iriV ⟨#[112]⟩, iriV ⟨#[98]⟩⟩
def wk2 : Trip := ⟨iriV ⟨#[97]⟩, iriV ⟨#[112]⟩, iriV ⟨#[99]⟩⟩
def wk3 : Trip := ⟨iriV ⟨#[98]⟩, iriV ⟨#[113]⟩, iriV ⟨#[99]⟩⟩
theorem wk_ok (t : Trip) (h : t ∈ [wk1, wk2, wk3]) : OkT t := by
 simp only [List.mem_cons, List.not_mem_nil, or_false] at h
 rcases h with rfl | rfl | rfl <;> exact ⟨⟨by decide, by decide, by decide⟩, ⟨by decide, by decide, by decide⟩, ⟨by decide, by decide, by decide⟩⟩
theorem wk_may (t : Trip) (h : t ∈ [wk1, wk2, wk3]) : mayT t = true := by
 simp only [List.mem_cons, List.not_mem_nil, or_false] at h
 rcases h with rfl | rfl | rfl <;> decide
theorem wk_scal (t : Trip) (h : t ∈ [wk1, wk2, wk3]) : ScalT t := mayT_scal (wk_may t h) (wk_ok t h)
theorem wk_rise : Rise (along (wayN 0)) [wk1, wk2, wk3] := by decide
theorem wk_load : loadR (along (wayN 0)) [wk1, wk2, wk3] = [wk1, wk2, wk3] := by
 have h := loadR_is (along_pre (wayN 0)) (l := [wk1, wk2, wk3]) (fun a ha b hb h => along_eq (wayN_ok 0) (wk_scal a ha) (wk_scal b hb) h)
 exact rise_one (along_pre _) h.1 wk_rise h.2
theorem wk_keys0 : keysA [wk1, wk2, wk3] (wayN 3) [] = [iriV ⟨#[112]⟩, iriV ⟨#[113]⟩] := by
 have h := keysA_is (w := wayN 3) wk_scal []
 refine rise_one ordV_pre h.1 (by decide) fun x => (h.2 x).trans ?_
 constructor
 ·rintro ⟨t, ht, _, rfl⟩
  simp only [List.mem_cons, List.not_mem_nil, or_false] at ht ⊢
  rcases ht with rfl | rfl | rfl
  ·exact .inl rfl
  ·exact .inl rfl
  ·exact .inr rfl
 ·intro hx
  simp only [List.mem_cons, List.not_mem_nil, or_false] at hx
  rcases hx with rfl | rfl
  ·exact ⟨wk1, by simp, Begins.nil _ _, rfl⟩
  ·exact ⟨wk3, by simp, Begins.nil _ _, rfl⟩
theorem begins_one {w : Way} {v : Val} {t : Trip} : Begins w [v] t ↔ t.get (w.get 0) = v := by
 have := Begins.snoc (w := w) (pre := []) (v := v) (t := t)
 exact ⟨fun h => (this.1 h).2, fun h => this.2 ⟨Begins.nil _ _, h⟩⟩
theorem wk_keys1 : keysA [wk1, wk2, wk3] (wayN 3) [iriV ⟨#[112]⟩] = [iriV ⟨#[98]⟩, iriV ⟨#[99]⟩] := by
 have h := keysA_is (w := wayN 3) wk_scal [iriV ⟨#[112]⟩]
 refine rise_one ordV_pre h.1 (by decide) fun x => (h.2 x).trans ?_
 constructor
 ·rintro ⟨t, ht, hb, rfl⟩
  simp only [List.mem_cons, List.not_mem_nil, or_false] at ht ⊢
  rcases ht with rfl | rfl | rfl
  ·exact .inl rfl
  ·exact .inr rfl
  ·exact absurd (begins_one.1 hb) (by intro h; injection h with _ _ _ h _ _; revert h; decide)
 ·intro hx
  simp only [List.mem_cons, List.not_mem_nil, or_false] at hx
  rcases hx with rfl | rfl
  ·exact ⟨wk1, by simp, begins_one.2 rfl, rfl⟩
  ·exact ⟨wk2, by simp, begins_one.2 rfl, rfl⟩
theorem wk_s1 : openA [wk1, wk2, wk3] (wayN 3) ⟨[], false⟩ = (⟨[iriV ⟨#[112]⟩], false⟩, true) := by
 unfold openA
 rw [if_neg (by decide), wk_keys0]
 rfl
theorem wk_s2 : openA [wk1, wk2, wk3] (wayN 3) ⟨[iriV ⟨#[112]⟩], false⟩ = (⟨[iriV ⟨#[112]⟩, iriV ⟨#[98]⟩], false⟩, true) := by
 unfold openA
 rw [if_neg (by decide), wk_keys1]
 rfl
theorem wk_s3 : nextA [wk1, wk2, wk3] (wayN 3) ⟨[iriV ⟨#[112]⟩, iriV ⟨#[98]⟩], false⟩ = (⟨[iriV ⟨#[112]⟩, iriV ⟨#[99]⟩], false⟩, true) := by
 show toA [wk1, wk2, wk3] (wayN 3) true (iriV ⟨#[98]⟩) ⟨[iriV ⟨#[112]⟩, iriV ⟨#[98]⟩], false⟩ = _
 show (match (keysA [wk1, wk2, wk3] (wayN 3) [iriV ⟨#[112]⟩]).find? (toF true (iriV ⟨#[98]⟩) (iriV ⟨#[98]⟩)) with | some x => ((⟨[iriV ⟨#[112]⟩] ++ [x], false⟩ : CurA), true) | none => _) = _
 rw [wk_keys1, show [iriV ⟨#[98]⟩, iriV ⟨#[99]⟩].find? (toF true (iriV ⟨#[98]⟩) (iriV ⟨#[98]⟩)) = some (iriV ⟨#[99]⟩) from by kernel_rfl]
 rfl
theorem wk_s4 : nextA [wk1, wk2, wk3] (wayN 3) ⟨[iriV ⟨#[112]⟩, iriV ⟨#[99]⟩], false⟩ = (⟨[iriV ⟨#[112]⟩, iriV ⟨#[99]⟩], true⟩, false) := by
 show (match (keysA [wk1, wk2, wk3] (wayN 3) [iriV ⟨#[112]⟩]).find? (toF true (iriV ⟨#[99]⟩) (iriV ⟨#[99]⟩)) with | some x => ((⟨[iriV ⟨#[112]⟩] ++ [x], false⟩ : CurA), true) | none => _) = _
 rw [wk_keys1, show [iriV ⟨#[98]⟩, iriV ⟨#[99]⟩].find? (toF true (iriV ⟨#[99]⟩) (iriV ⟨#[99]⟩)) = none from by kernel_rfl]
theorem wk_s5 : upA ⟨[iriV ⟨#[112]⟩, iriV ⟨#[99]⟩], true⟩ = (⟨[iriV ⟨#[112]⟩], false⟩, true) := rfl
theorem wk_s6 : nextA [wk1, wk2, wk3] (wayN 3) ⟨[iriV ⟨#[112]⟩], false⟩ = (⟨[iriV ⟨#[113]⟩], false⟩, true) := by
 show (match (keysA [wk1, wk2, wk3] (wayN 3) []).find? (toF true (iriV ⟨#[112]⟩) (iriV ⟨#[112]⟩)) with | some x => ((⟨[] ++ [x], false⟩ : CurA), true) | none => _) = _
 rw [wk_keys0, show [iriV ⟨#[112]⟩, iriV ⟨#[113]⟩].find? (toF true (iriV ⟨#[112]⟩) (iriV ⟨#[112]⟩)) = some (iriV ⟨#[113]⟩) from by kernel_rfl]
 rfl
theorem build_iri (t : ByteArray) (W : World) : (Instr.build 34 #[(0, .int .i64 8), (3, .string t)]).run Tryz.prog W = .ok (.agg (cellsV (iriV t) (.slice none 0 0))) W := by kernel_rfl
def IriIs (t : ByteArray) (w : World) (e : Ending) (w' : World) : Prop := e = .returned (.agg (cellsV (iriV t) (.slice none 0 0))) ∧ Below w.heap.size w w'
set_option maxRecDepth 100000 in
set_option maxHeartbeats 2000000 in
theorem iri5_any (t : ByteArray) (w : World) : Calls Tryz.prog 38 #[.string t] w (IriIs t w) := by
 obtain ⟨u, Hu⟩ := name6 (iriV t) (.slice none 0 0)
 have SL := Lib.hid (show u.size = (#[.int .i64 0, .bool false, .int .i64 0, .string ⟨#[]⟩, .string ⟨#[]⟩, .slice none 0 0] : Array Value).size from by rw [Hu.size]; rfl)
 have IL := Lib.hid (show (Tryz.prog.info? 34).map (·.size) = some u.size from infoV6.trans (congrArg some Hu.size.symm))
 have OL := Lib.hid (show u.all (·.oneCell') = true from by rw [← Hu.out]; kernel_rfl)
 have HBU := Lib.hid (fun W : World => (show (Instr.build 34 #[(0, .int .i64 8), (3, .string t)]).run Tryz.prog W = .ok (.agg u) W from by rw [← Hu.out]; exact build_iri t W))
 obtain ⟨z, Hz⟩ := name_itV w.heap.size
 obtain ⟨wb, HWB⟩ := name_itV (w.alloc (.cells #[.int .i64 0, .bool false, .int .i64 0, .string ⟨#[]⟩, .string ⟨#[]⟩, .slice none 0 0] 34))
 have HBZ := Lib.hid (show Below w.heap.size w wb from by rw [← HWB.out]; exact (Below.refl _ _).alloc (Nat.le_refl _) _)
 have HVZ := Lib.hid (show wb.heap[z]? = some (.cells #[.int .i64 0, .bool false, .int .i64 0, .string ⟨#[]⟩, .string ⟨#[]⟩, .slice none 0 0] 34 (0, 0)) from by rw [← HWB.out, ← Hz.out]; exact heap_alloc_new w _)
 have HR := Lib.hid (fun (w' : World) (hb : Below w.heap.size w w') => (show IriIs t w (.returned (.agg u)) w' from ⟨by rw [← Hu.out], hb⟩))
 clear Hu
 go_enter Tryz.func38, Tryz.ntmps38
 go_upto_region 1 with fail
 rw [HWB.out, Hz.out]
 clear HWB
 go_wp2_with (first
  | ((with_reducible refine at_dst (some 4) ?_); refine build_arm rfl 34 _ rfl #[(0, .int .i64 8), (3, .string t)] (by kernel_rfl) (.agg u) (HBU.out _) ?_)
  | ((with_reducible refine at_st 2 ?_); refine st_row rfl 34 _ _ rfl z (#[.int .i64 0, .bool false, .int .i64 0, .string ⟨#[]⟩, .string ⟨#[]⟩, .slice none 0 0]) u 34 rfl rfl HVZ.out SL.out IL.out OL.out ?_; intro w2 hw2 ht2))
 have HB2 := Lib.hid (show Below w.heap.size w w2 from below_turn HBZ.out ht2 (fun b hb => by have hb : b = z := hb; have h2 : w.heap.size = z := Hz.out; omega))
 refine bodyPost_ret (v := .agg u) (results_row Tryz.results38 (g := z) rfl hw2 _ Tryz.underlying34 rfl IL.out) rfl (HR.out _ HB2.out)
theorem build_tr (t : Trip) (W : World) : (Instr.build 41 #[(0, .agg (cellsV t.s (.slice none 0 0))), (1, .agg (cellsV t.p (.slice none 0 0))), (2, .agg (cellsV t.o (.slice none 0 0)))]).run Tryz.prog W = .ok (.agg (cellsT t nilS)) W := by kernel_rfl
theorem bs3_list (x y z : Trip) (w : World) : (Instr.buildSlice 22 3 #[(0, .agg (cellsT x nilS)), (1, .agg (cellsT y nilS)), (2, .agg (cellsT z nilS))]).run Tryz.prog w = .ok (.slice (some ⟨w.heap.size, 0, none⟩) 3 3) (w.alloc (.cells (cellsT x nilS ++ cellsT y nilS ++ cellsT z nilS) 41)) := by kernel_rfl
section
variable {P : Program} {ops : Array Oper} {rest : List Oper} {op : Oper} {a : Act} {w : World} {Q : Exit → Act → World → Prop}
/-- A slice is built of its elements. -/
theorem bs_arm (hgd : op.guard = none) (ty : TypeId) (n : Nat) (parts : Array (Nat × Operand)) (ho : op.op = .buildSlice ty n parts) (ps : Array (Nat × Value)) (hps : (parts.map fun (i, x) => (i, a.eval x)) = ps) (v : Value) (w' : World) (hv : (Instr.buildSlice ty n ps).run P w = .ok v w') (h : wpList P ops Q rest (a.put op.dst v) w') : wpList P ops Q (op :: rest) a w :=
 wpList_plain hgd fun _ hK => by
  unfold Oper.wp execOp
  simp only [ho]
  have e : (Instr.buildSlice ty n (parts.map fun (i, x) => (i, a.eval x))).run P w = .ok v w' := by rw [hps]; exact hv
  simp only [Sem.run_bind, Sem.run_pure, e, Result.andThen_ok]
  exact hK _ _ h
end
theorem app3_at {A B C : Array Value} (hA : A.size = 18) (hB : B.size = 18) (j : Nat) (hj : j < 18) : (A ++ B ++ C)[j]? = A[j]? ∧ (A ++ B ++ C)[18 + j]? = B[j]? ∧ (A ++ B ++ C)[36 + j]? = C[j]? := by
 have hAB : (A ++ B).size = 36 := by rw [Array.size_append, hA, hB]
 refine ⟨?_, ?_, ?_⟩
 ·rw [Array.getElem?_append_left (by omega), Array.getElem?_append_left (by omega)]
 ·rw [Array.getElem?_append_left (by omega), Array.getElem?_append_right (by omega), hA, Nat.add_sub_cancel_left]
 ·rw [Array.getElem?_append_right (by omega), hAB, Nat.add_sub_cancel_left]
theorem srd3 {w : World} {g : Nat} {x y z : Trip} {T : TypeId} {fr : Nat × Nat} (hx : ∀ t, t ∈ [x, y, z] → ScalT t) (h : w.heap[g]? = some (.cells (cellsT x nilS ++ cellsT y nilS ++ cellsT z nilS) T fr)) : SRd 18 TrR w (fun b => b = g) [x, y, z] (some ⟨g, 0, none⟩) 3 := by
 refine ⟨rfl, fun _ => ⟨_, rfl, rfl, fun i t hi => ⟨cellsT t nilS, rfl, fun j hj => ?_, nilS, rfl, fun n _ => ?_⟩⟩⟩
 ·rw [Addr.add_mid, Nat.zero_add, cell_of_row w g (i * 18 + j) _ T fr h]
  have ha := app3_at (C := cellsT z nilS) (cellsT_size x nilS) (cellsT_size y nilS) j hj
  match i, hi with
  | 0, hi =>
   have hi : x = t := Option.some.inj hi
   rw [← hi]
   rw [Nat.zero_mul, Nat.zero_add]
   exact ha.1
  | 1, hi =>
   have hi : y = t := Option.some.inj hi
   rw [← hi]
   exact ha.2.1
  | 2, hi =>
   have hi : z = t := Option.some.inj hi
   rw [← hi]
   exact ha.2.2
  | k + 3, hi => cases hi
 ·have hs := (hx t (List.mem_of_getElem? hi)).get n
  have hl := scal_list hs
  have := VRd.mk (w := w) (F := fun b => b = g) (t.get n) none 0 ⟨0, 0, none⟩ (fun _ => #[]) (by rw [hl]; exact Nat.le_refl _) (by rw [hl]; intro h; cases h) (by rw [hl]; intro i h; cases h) (by rw [hl]; intro i x h; simp at h)
  rw [hl] at this
  exact this
set_option maxRecDepth 100000 in
set_option maxHeartbeats 8000000 in
theorem wakes5_any (w : World) (hgb : GlobB w) (hgt : GlobT w) : Calls Tryz.prog 8 #[] w fun e w' => e = .returned (.bool true) ∧ Below w.heap.size w w' := by
 have HG := Lib.hid (And.intro hgb hgt)
 clear hgb hgt
 obtain ⟨ua, Ha⟩ := name6 (iriV ⟨#[97]⟩) (.slice none 0 0)
 obtain ⟨up, Hp⟩ := name6 (iriV ⟨#[112]⟩) (.slice none 0 0)
 obtain ⟨ub, Hb⟩ := name6 (iriV ⟨#[98]⟩) (.slice none 0 0)
 obtain ⟨uc, Hc⟩ := name6 (iriV ⟨#[99]⟩) (.slice none 0 0)
 obtain ⟨uq, Hq⟩ := name6 (iriV ⟨#[113]⟩) (.slice none 0 0)
 obtain ⟨r1, HR1⟩ := name18 wk1 nilS
 have HT1 := Lib.hid (fun W : World => (show (Instr.build 41 #[(0, .agg ua), (1, .agg up), (2, .agg ub)]).run Tryz.prog W = .ok (.agg r1) W from by rw [← Ha.out, ← Hp.out, ← Hb.out, ← HR1.out]; exact build_tr wk1 W))
 obtain ⟨r2, HR2⟩ := name18 wk2 nilS
 have HT2 := Lib.hid (fun W : World => (show (Instr.build 41 #[(0, .agg ua), (1, .agg up), (2, .agg uc)]).run Tryz.prog W = .ok (.agg r2) W from by rw [← Ha.out, ← Hp.out, ← Hc.out, ← HR2.out]; exact build_tr wk2 W))
 obtain ⟨r3, HR3⟩ := name18 wk3 nilS
 have HT3 := Lib.hid (fun W : World => (show (Instr.build 41 #[(0, .agg ub), (1, .agg uq), (2, .agg uc)]).run Tryz.prog W = .ok (.agg r3) W from by rw [← Hb.out, ← Hq.out, ← Hc.out, ← HR3.out]; exact build_tr wk3 W))
 have HBS := Lib.hid (fun W : World => (show (Instr.buildSlice 22 3 #[(0, .agg r1), (1, .agg r2), (2, .agg r3)]).run Tryz.prog W = .ok (.slice (some ⟨W.heap.size, 0, none⟩) 3 3) (W.alloc (.cells (cellsT wk1 nilS ++ cellsT wk2 nilS ++ cellsT wk3 nilS) 41)) from by rw [← HR1.out, ← HR2.out, ← HR3.out]; exact bs3_list wk1 wk2 wk3 W))
 clear HR1 HR2 HR3
 go_enter Tryz.func8, Tryz.ntmps8
 go_wp2_with fail
 refine (iri5_any _ _).mono ?_
 unfold IriIs
 rintro e w1 ⟨rfl, hb⟩
 have HB1 := Lib.hid hb
 clear hb
 rw [Ha.out]
 go_wp2_with fail
 refine (iri5_any _ _).mono ?_
 unfold IriIs
 rintro e w2 ⟨rfl, hb⟩
 have HB2 := Lib.hid (HB1.out.trans (hb.mono HB1.out.size))
 clear hb
 rw [Hp.out]
 go_wp2_with fail
 refine (iri5_any _ _).mono ?_
 unfold IriIs
 rintro e w3 ⟨rfl, hb⟩
 have HB3 := Lib.hid (HB2.out.trans (hb.mono HB2.out.size))
 clear hb
 rw [Hb.out]
 go_wp2_with ((with_reducible refine at_dst (some 10) ?_); refine build_arm rfl 41 _ rfl #[(0, .agg ua), (1, .agg up), (2, .agg ub)] (by kernel_rfl) (.agg r1) (HT1.out _) ?_)
 refine (iri5_any _ _).mono ?_
 unfold IriIs
 rintro e w4 ⟨rfl, hb⟩
 have HB4 := Lib.hid (HB3.out.trans (hb.mono HB3.out.size))
 clear hb
 rw [Ha.out]
 go_wp2_with fail
 refine (iri5_any _ _).mono ?_
 unfold IriIs
 rintro e w5 ⟨rfl, hb⟩
 have HB5 := Lib.hid (HB4.out.trans (hb.mono HB4.out.size))
 clear hb
 rw [Hp.out]
 go_wp2_with fail
 refine (iri5_any _ _).mono ?_
 unfold IriIs
 rintro e w6 ⟨rfl, hb⟩
 have HB6 := Lib.hid (HB5.out.trans (hb.mono HB5.out.size))
 clear hb
 rw [Hc.out]
 go_wp2_with ((with_reducible refine at_dst (some 14) ?_); refine build_arm rfl 41 _ rfl #[(0, .agg ua), (1, .agg up), (2, .agg uc)] (by kernel_rfl) (.agg r2) (HT2.out _) ?_)
 refine (iri5_any _ _).mono ?_
 unfold IriIs
 rintro e w7 ⟨rfl, hb⟩
 have HB7 := Lib.hid (HB6.out.trans (hb.mono HB6.out.size))
 clear hb
 rw [Hb.out]
 go_wp2_with fail
 refine (iri5_any _ _).mono ?_
 unfold IriIs
 rintro e w8 ⟨rfl, hb⟩
 have HB8 := Lib.hid (HB7.out.trans (hb.mono HB7.out.size))
 clear hb
 rw [Hq.out]
 go_wp2_with fail
 refine (iri5_any _ _).mono ?_
 unfold IriIs
 rintro e w9 ⟨rfl, hb⟩
 have HB9 := Lib.hid (HB8.out.trans (hb.mono HB8.out.size))
 clear hb
 rw [Hc.out]
 obtain ⟨zl, Hzl⟩ := name_itV w9.heap.size
 obtain ⟨wl, HWL⟩ := name_itV (w9.alloc (.cells (cellsT wk1 nilS ++ cellsT wk2 nilS ++ cellsT wk3 nilS) 41))
 have HBL := Lib.hid (show Below w.heap.size w wl from by rw [← HWL.out]; exact HB9.out.alloc HB9.out.size _)
 have HSL := Lib.hid (show wl.heap[zl]? = some (.cells (cellsT wk1 nilS ++ cellsT wk2 nilS ++ cellsT wk3 nilS) 41 (0, 0)) from by rw [← HWL.out, ← Hzl.out]; exact heap_alloc_new w9 _)
 have HZL := Lib.hid (show w.heap.size ≤ zl from by rw [← Hzl.out]; exact HB9.out.size)
 have HBS9 := Lib.hid (show (Instr.buildSlice 22 3 #[(0, .agg r1), (1, .agg r2), (2, .agg r3)]).run Tryz.prog w9 = .ok (.slice (some ⟨zl, 0, none⟩) 3 3) wl from by rw [← Hzl.out, ← HWL.out]; exact HBS.out w9)
 clear HWL Hzl HBS
 go_wp2_with (first
  | ((with_reducible refine at_dst (some 18) ?_); refine build_arm rfl 41 _ rfl #[(0, .agg ub), (1, .agg uq), (2, .agg uc)] (by kernel_rfl) (.agg r3) (HT3.out _) ?_)
  | ((with_reducible refine at_dst (some 19) ?_); refine bs_arm rfl 22 3 _ rfl #[(0, .agg r1), (1, .agg r2), (2, .agg r3)] (by kernel_rfl) (.slice (some ⟨zl, 0, none⟩) 3 3) wl HBS9.out ?_))
 refine (loadT_any [wk1, wk2, wk3] wk_ok (fun b => b = zl) (some ⟨zl, 0, none⟩) 3 3 wl (fun g hg => by have hg : g = zl := hg; rw [hg]; exact blk_lt HSL.out) (srd3 wk_scal HSL.out) (by omega) (glob_under HG.out.1 HBL.out) (globT_under HG.out.2 HBL.out)).mono ?_
 rintro e v1 (⟨hno, _⟩ | ⟨_, _, c, rfl, hb, hs⟩)
 ·exact absurd ⟨by decide, by rw [List.all_eq_true]; exact wk_may⟩ hno
 rw [wk_load] at hs
 have HS := Lib.hid hs
 have HV1 := Lib.hid (HBL.out.trans (hb.mono HBL.out.size))
 have HFL := Lib.hid (fun b (h : wl.heap.size ≤ b ∧ b < v1.heap.size) => h.2)
 clear hs hb
 obtain ⟨F, HFN⟩ := name_itV (fun b => wl.heap.size ≤ b ∧ b < v1.heap.size)
 rw [HFN.out] at HS
 have HFL := Lib.hid (show ∀ b, F b → b < v1.heap.size from by rw [← HFN.out]; exact fun b h => h.2)
 clear HFN
 go_wp2_with fail
 refine (len_any HS.out).mono ?_
 rintro e _ ⟨rfl, rfl⟩
 rw [show (([wk1, wk2, wk3].length : Nat) : Int) = 3 from rfl]
 go_wp2_with fail
 refine (cursor_any HS.out HFL.out 3 (by omega)).mono ?_
 rintro e v2 ⟨q, rfl, hc, hb, hq⟩
 have HC2 := Lib.hid hc
 have HV2 := Lib.hid (HV1.out.trans (hb.mono HV1.out.size))
 have HQ := Lib.hid (show w.heap.size ≤ q from Nat.le_trans HV1.out.size hq)
 clear hc hb hq
 go_wp2_with fail
 have hop := open_any HC2.out (glob_under HG.out.1 HV2.out) (globT_under HG.out.2 HV2.out)
 rw [wk_s1] at hop
 refine hop.mono ?_
 unfold CurDo
 rintro e v3 ⟨rfl, hc, ht⟩
 dsimp only at hc
 have HC3 := Lib.hid hc
 have HV3 := Lib.hid (below_turn HV2.out ht (fun b hb => by have hb : b = q := hb; rw [hb]; exact HQ.out))
 clear hop hc ht
 dsimp only
 go_wp2_with fail
 have hop := keyC_any HC3.out
 rw [show keyA ⟨[iriV ⟨#[112]⟩], false⟩ = some (iriV ⟨#[112]⟩) from rfl] at hop
 refine hop.mono ?_
 unfold KeyRes
 rintro e v4 ⟨A0, cap0, rfl, hb⟩
 rw [show (some (iriV ⟨#[112]⟩)).getD valZ = iriV ⟨#[112]⟩ from rfl, show (some (iriV ⟨#[112]⟩)).isSome = true from rfl]
 obtain ⟨uk, Huk⟩ := name6 (iriV ⟨#[112]⟩) (.slice A0 0 cap0)
 rw [Huk.out]
 have HC4 := Lib.hid (HC3.out.on hb)
 have HV4 := Lib.hid (HV3.out.trans (hb.mono HV3.out.size))
 clear hop hb
 obtain ⟨zk, Hzk⟩ := name_itV v4.heap.size
 obtain ⟨vb, HWB⟩ := name_itV (v4.alloc (.cells #[.int .i64 0, .bool false, .int .i64 0, .string ⟨#[]⟩, .string ⟨#[]⟩, .slice none 0 0] 34))
 have HBZ := Lib.hid (show Below v4.heap.size v4 vb from by rw [← HWB.out]; exact (Below.refl _ _).alloc (Nat.le_refl _) _)
 have HVZ := Lib.hid (show vb.heap[zk]? = some (.cells #[.int .i64 0, .bool false, .int .i64 0, .string ⟨#[]⟩, .string ⟨#[]⟩, .slice none 0 0] 34 (0, 0)) from by rw [← HWB.out, ← Hzk.out]; exact heap_alloc_new v4 _)
 have SL := Lib.hid (show uk.size = (#[.int .i64 0, .bool false, .int .i64 0, .string ⟨#[]⟩, .string ⟨#[]⟩, .slice none 0 0] : Array Value).size from by rw [Huk.size]; rfl)
 have IL := Lib.hid (show (Tryz.prog.info? 34).map (·.size) = some uk.size from infoV6.trans (congrArg some Huk.size.symm))
 have OL := Lib.hid (show uk.all (·.oneCell') = true from by rw [← Huk.out]; kernel_rfl)
 have K3 := Lib.hid (show uk[3]? = some (.string ⟨#[112]⟩) from by rw [← Huk.out]; rfl)
 go_upto_region 8 with ((with_reducible refine at_st 4 ?_); rw [HWB.out, Hzk.out]; refine st_row rfl 34 _ _ rfl zk (#[.int .i64 0, .bool false, .int .i64 0, .string ⟨#[]⟩, .string ⟨#[]⟩, .slice none 0 0]) uk 34 rfl rfl HVZ.out SL.out IL.out OL.out ?_; intro v5 hw5 ht5)
 have HB5 := Lib.hid (below_turn HBZ.out ht5 (fun b hb => by have hb : b = zk := hb; have := Hzk.out; omega))
 have k3 : v5.cell? ⟨zk, 3, none⟩ = some (.string ⟨#[112]⟩) := (cell_of_row v5 zk 3 uk _ _ hw5).trans K3.out
 have HC5 := Lib.hid (HC4.out.on HB5.out)
 have HV5 := Lib.hid (HV4.out.trans (HB5.out.mono HV4.out.size))
 clear ht5 HWB
 go_wp2_with fail
 have hop := open_any HC5.out (glob_under HG.out.1 HV5.out) (globT_under HG.out.2 HV5.out)
 rw [wk_s2] at hop
 refine hop.mono ?_
 unfold CurDo
 rintro e v6 ⟨rfl, hc, ht⟩
 dsimp only at hc
 have HC6 := Lib.hid hc
 have HV6 := Lib.hid (below_turn HV5.out ht (fun b hb => by have hb : b = q := hb; rw [hb]; exact HQ.out))
 clear hop hc ht k3 hw5
 dsimp only
 go_wp2_with fail
 have hop := next_any HC6.out (glob_under HG.out.1 HV6.out) (globT_under HG.out.2 HV6.out)
 rw [wk_s3] at hop
 refine hop.mono ?_
 unfold CurDo
 rintro e v7 ⟨rfl, hc, ht⟩
 dsimp only at hc
 have HC7 := Lib.hid hc
 have HV7 := Lib.hid (below_turn HV6.out ht (fun b hb => by have hb : b = q := hb; rw [hb]; exact HQ.out))
 clear hop hc ht
 dsimp only
 go_wp2_with fail
 have hop := next_any HC7.out (glob_under HG.out.1 HV7.out) (globT_under HG.out.2 HV7.out)
 rw [wk_s4] at hop
 refine hop.mono ?_
 unfold CurDo
 rintro e v8 ⟨rfl, hc, ht⟩
 dsimp only at hc
 have HC8 := Lib.hid hc
 have HV8 := Lib.hid (below_turn HV7.out ht (fun b hb => by have hb : b = q := hb; rw [hb]; exact HQ.out))
 clear hop hc ht
 dsimp only
 go_wp2_with fail
 have hop := up_any HC8.out
 rw [wk_s5] at hop
 refine hop.mono ?_
 unfold CurDo
 rintro e v9 ⟨rfl, hc, ht⟩
 dsimp only at hc
 have HC9 := Lib.hid hc
 have HV9 := Lib.hid (below_turn HV8.out ht (fun b hb => by have hb : b = q := hb; rw [hb]; exact HQ.out))
 clear hop hc ht
 dsimp only
 go_wp2_with fail
 have hop := next_any HC9.out (glob_under HG.out.1 HV9.out) (globT_under HG.out.2 HV9.out)
 rw [wk_s6] at hop
 refine hop.mono ?_
 unfold CurDo
 rintro e v10 ⟨rfl, hc, ht⟩
 dsimp only at hc
 have HC10 := Lib.hid hc
 have HV10 := Lib.hid (below_turn HV9.out ht (fun b hb => by have hb : b = q := hb; rw [hb]; exact HQ.out))
 clear hop hc ht
 dsimp only
 go_wp2_with fail
 refine (depth_any HC10.out).mono ?_
 rintro e _ ⟨rfl, rfl⟩
 rw [show ((([iriV ⟨#[113]⟩] : List Val).length : Nat) : Int) = 1 from rfl]
 go_wp2_with fail
 go_ret
 exact ⟨rfl, HV10.out⟩
end Go.Proofs.YtijciakkfpjjbaaGreatDoor
