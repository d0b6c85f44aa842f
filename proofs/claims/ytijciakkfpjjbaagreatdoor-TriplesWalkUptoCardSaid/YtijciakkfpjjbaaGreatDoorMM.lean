/- TriplesWalk: the walk: printed by gen_YC.py. -/
import Derived.Test.YtijciakkfpjjbaaGreatDoorML
namespace Go.Proofs.YtijciakkfpjjbaaGreatDoor
open Go Go.RowKit Go.Maps

set_option maxRecDepth 100000 in
set_option maxHeartbeats 32000000 in
theorem walks_any (L : List Trip) (hok : ∀ t, t ∈ L → OkT t) (F : Nat → Prop) (A1 : Option Addr) (nL c1 : Nat) (w : World) (hF : ∀ b, F b → b < w.heap.size)
    (hL : SRd 18 TrR w F L A1 nL) (hnL : nL ≤ 1000000000) (hgb : GlobB w) (hgt : GlobT w) :
    Calls Tryz.prog 3 #[.slice A1 nL c1] w (ToldB true w) := by
 have HG := Lib.hid (And.intro hgb hgt)
 have HLD := Lib.hid (fun (W : World) (hb : Below w.heap.size w W) => loadT_any L hok F A1 nL c1 W (fun b h => Nat.lt_of_lt_of_le (hF b h) hb.size) (hL.under TrR.good hb hF) hnL (glob_under hgb hb) (globT_under hgt hb))
 have HLL := Lib.hid (show L.length = nL from hL.1.symm)
 have HW := Lib.hid (fun (W : World) (hb : Below w.heap.size w W) => (wakes5_any W (glob_under hgb hb) (globT_under hgt hb)).mono (fun e w' (h : e = .returned (.bool true) ∧ Below W.heap.size W w') => (⟨h.1, hb.trans (h.2.mono hb.size)⟩ : e = .returned (.bool true) ∧ Below w.heap.size w w')))
 clear hL hok hgb hgt hF
 go_enter Tryz.func3, Tryz.ntmps3
 by_cases hbig : 60 < nL
 ·have e1 : (60 : Int) < nL := by omega
  go_wp2_with fail
  refine (HW.out _ (Below.refl _ _)).mono ?_
  rintro e w9 ⟨rfl, hb9⟩
  have HB9 := Lib.hid hb9
  clear hb9
  go_wp2_with fail
  go_ret
  exact ⟨rfl, HB9.out⟩
 ·have e1 : ¬ (60 : Int) < nL := by omega
  go_wp2_with fail
  refine (HLD.out w (Below.refl _ _)).mono ?_
  rintro e w2 (⟨_, rfl, hb⟩ | ⟨_, _, c, rfl, hb, hs⟩)
  ·have HB2 := Lib.hid hb
   clear hb
   go_wp2_with fail
   refine (HW.out _ HB2.out).mono ?_
   rintro e w9 ⟨rfl, hb9⟩
   have HB9 := Lib.hid hb9
   clear hb9
   go_wp2_with fail
   go_ret
   exact ⟨rfl, HB9.out⟩
  ·have HB2 := Lib.hid hb
   obtain ⟨Gs, HGN⟩ := name_itV (fun b => w.heap.size ≤ b ∧ b < w2.heap.size)
   rw [HGN.out] at hs
   have HFL := Lib.hid (show ∀ b, Gs b → b < w2.heap.size from by rw [← HGN.out]; exact fun b h => h.2)
   obtain ⟨T, HT⟩ := name_itV (loadR (along (wayN 0)) L)
   rw [HT.out] at hs
   have HS2 := Lib.hid hs
   have HTL := Lib.hid (show T.length ≤ 60 from by have h1 := loadR_len (along (wayN 0)) L; rw [HT.out] at h1; have := HLL.out; omega)
   clear hs hb HGN HT e1 hbig
   obtain ⟨zo, HZO⟩ := name_itV w2.heap.size
   obtain ⟨w3, HW3⟩ := name_itV (w2.alloc (.cells #[.string (wayT 0), .string (wayT 1), .string (wayT 2), .string (wayT 3), .string (wayT 4), .string (wayT 5)] 9))
   have HB23 := Lib.hid (show Below w2.heap.size w2 w3 from by rw [← HW3.out]; exact (Below.refl _ _).alloc (Nat.le_refl _) _)
   have HB3 := Lib.hid (HB2.out.trans (HB23.out.mono HB2.out.size))
   have HO3 := Lib.hid (show w3.heap[zo]? = some (.cells #[.string (wayT 0), .string (wayT 1), .string (wayT 2), .string (wayT 3), .string (wayT 4), .string (wayT 5)] 9 (0, 0)) from by rw [← HW3.out, ← HZO.out]; exact heap_alloc_new w2 _)
   have HBS := Lib.hid (show (Instr.buildSlice 28 6 #[(0, .string ⟨#[115, 112, 111]⟩), (1, .string ⟨#[115, 111, 112]⟩), (2, .string ⟨#[112, 115, 111]⟩), (3, .string ⟨#[112, 111, 115]⟩), (4, .string ⟨#[111, 115, 112]⟩), (5, .string ⟨#[111, 112, 115]⟩)]).run Tryz.prog w2 = .ok (.slice (some ⟨zo, 0, none⟩) 6 6) w3 from by rw [← HZO.out, ← HW3.out]; exact bs_orders w2)
   have HFL3 := Lib.hid (fun b (h : Gs b) => Nat.lt_of_lt_of_le (HFL.out b h) HB23.out.size)
   have HS3 := Lib.hid (HS2.out.keep fun b hb => HB23.out.block b (HFL.out b hb))
   have HO := Lib.hid (fun (W : World) (hb : Below w3.heap.size w3 W) => (hb.block zo (blk_lt HO3.out)).trans HO3.out)
   have HS := Lib.hid (fun (W : World) (hb : Below w3.heap.size w3 W) => HS3.out.keep fun b hb2 => hb.block b (HFL3.out b hb2))
   have HGG := Lib.hid (fun (W : World) (hb : Below w3.heap.size w3 W) => And.intro (glob_under HG.out.1 (HB3.out.trans (hb.mono HB3.out.size))) (globT_under HG.out.2 (HB3.out.trans (hb.mono HB3.out.size))))
   clear HW3 HZO
   go_wp2_with ((with_reducible refine at_dst (some 40) ?_); refine bs_arm rfl 28 6 _ rfl #[(0, .string ⟨#[115, 112, 111]⟩), (1, .string ⟨#[115, 111, 112]⟩), (2, .string ⟨#[112, 115, 111]⟩), (3, .string ⟨#[112, 111, 115]⟩), (4, .string ⟨#[111, 115, 112]⟩), (5, .string ⟨#[111, 112, 115]⟩)] (by kernel_rfl) (.slice (some ⟨zo, 0, none⟩) 6 6) w3 HBS.out ?_)
   go_loopw [6] (fun s6 wx => ∃ i : Nat, i ≤ 6 ∧ s6 = .int .i64 (i : Nat) ∧ Hid (Below w3.heap.size w3 wx)) (fun s6 _ => 6 - (intOf s6).toNat)
   case atStart => exact ⟨0, by omega, rfl, Lib.hid (Below.refl _ _)⟩
   case round =>
    obtain ⟨i, hi, rfl, hM⟩ := hrel
    by_cases hlt : i < 6
    ·have e1 : (i : Int) < 6 := by omega
     have e0 : (0 : Int) ≤ i := by omega
     have w6 : IntKind.i64.wrap ((i : Int) + 1) = (i : Int) + 1 := IntWalk.i64_in _ (by omega)
     have hadd : (⟨zo, 0, none⟩ : Addr).add i = ⟨zo, i, none⟩ := by rw [Addr.add_mid, Nat.zero_add]
     have HLT := Lib.hid hlt
     have ho6 : wr.cell? ⟨zo, i, none⟩ = some (.string (wayT i)) := order_at (HO.out wr hM.out) hlt
     obtain ⟨K, hK, hOn, hKl⟩ := store_way (HS.out wr hM.out) hlt
     have HK := Lib.hid hK
     have HON := Lib.hid hOn
     have HKL := Lib.hid hKl
     have HK60 := Lib.hid (show K.length ≤ 60 from by have := HTL.out; omega)
     clear hK hOn hKl
     go_wp2_with fail
     refine (cursor_any (HS.out wr hM.out) (fun b hb => Nat.lt_of_lt_of_le (HFL3.out b hb) hM.out.size) i hlt).mono ?_
     rintro e v1 ⟨q, rfl, hc1, hb1, hq1⟩
     have HV1 := Lib.hid (hM.out.trans (hb1.mono hM.out.size))
     obtain ⟨zw, Hzw⟩ := name_itV v1.heap.size
     obtain ⟨v2, HV2⟩ := name_itV (v1.alloc (.cells #[.int .i64 0, .bool false, .int .i64 0, .string ⟨#[]⟩, .string ⟨#[]⟩, .slice none 0 0, .int .i64 0, .bool false, .int .i64 0, .string ⟨#[]⟩, .string ⟨#[]⟩, .slice none 0 0, .int .i64 0, .bool false, .int .i64 0, .string ⟨#[]⟩, .string ⟨#[]⟩, .slice none 0 0] 35))
     have HM0 := Lib.hid (show WkM Gs w3 q zw i T ⟨[], false⟩ ⟨valZ, valZ, valZ⟩ nilS [] (.slice none 0 0) v2 from by
      have hb2 : Below v1.heap.size v1 v2 := by rw [← HV2.out]; exact (Below.refl _ _).alloc (Nat.le_refl _) _
      refine ⟨HV1.out.trans (hb2.mono HV1.out.size), hc1.on hb2, by rw [← HV2.out, ← Hzw.out]; exact heap_alloc_new v1 _, SOwn.nil .., fun i _ => ⟨none, 0, rfl⟩, Nat.le_trans hM.out.size hq1, by rw [← Hzw.out]; exact hc1.lt, HFL3.out⟩)
     clear hc1 hb1 hq1 ho6 hM HV1
     go_upto_region 15 with fail
     rw [HV2.out, Hzw.out]
     clear HV2 Hzw
     go_wp2_with fail
     go_loopg [9, 11, 12] 500 (fun k s9 s11 s12 wx => ∃ (c : CurA) (wt : Trip) (sw : Nat → Value) (G : List Trip) (S : Value) (st : Nat) (dn : Bool), S = s9 ∧ s11 = .int .i64 (st : Nat) ∧ s12 = .bool dn ∧ Hid (WkM Gs w3 q zw i T c wt sw G S wx) ∧ Hid (WkS K (wayN i) c wt G dn st k))
     case atStart => exact ⟨_, _, _, _, _, 0, true, rfl, rfl, rfl, HM0.out, Lib.hid (WkS.start _ _ _)⟩
     case round =>
      obtain ⟨c, wt, sw, G, S, st, dn, rfl, rfl, rfl, hM, hS⟩ := hrel
      clear HM0
      rcases hS.out with ⟨hK0, rfl, rfl, rfl, rfl, rfl⟩ | ⟨m, d, rfl, hA, hst, hk⟩ | ⟨m, d, rfl, hB, hst, hk⟩
      ·clear hS
       have HK0 := Lib.hid hK0
       clear hK0
       go_wp2_with fail
       refine (dep_any hM.out.cur rfl).mono ?_
       rintro e w' ⟨rfl, rfl⟩
       go_wp2_with fail
       have hop := open_any hM.out.cur (HGG.out _ hM.out.b).1 (HGG.out _ hM.out.b).2
       rw [(show openA T (wayN i) ⟨[], false⟩ = (⟨[], false⟩, false) from open_none HK.out (.inr (.inr ⟨rfl, HK0.out⟩)))] at hop
       refine hop.mono ?_
       unfold CurDo
       rintro e x1 ⟨rfl, hc, ht⟩
       have HE1 := Lib.hid (hM.out.curDo hc ht)
       clear hc ht hop
       go_wp2_with fail
       refine (dep_any HE1.out.cur rfl).mono ?_
       rintro e w' ⟨rfl, rfl⟩
       have HGK := Lib.hid (show ([] : List Trip) = K from (List.eq_nil_of_length_eq_zero HK0.out).symm)
       go_wp2_with fail
       refine (all_any (HS.out _ HE1.out.b) (fun b hb => Nat.lt_of_lt_of_le (HFL3.out b hb) HE1.out.b.size)).mono ?_
       rintro e y1 ⟨r1, rfl, hown, hb⟩
       have HY1 := Lib.hid (HE1.out.on hb)
       obtain ⟨A5, c5, e5, _, hr5⟩ := hown.rd TrS.good
       obtain ⟨A6, c6, e6, _, hr6⟩ := HY1.out.own.rd TrS.good
       obtain ⟨nT, HNT⟩ := name_itV T.length
       rw [HNT.out] at e5 hr5
       rw [show ([] : List Trip).length = nT from by rw [← HNT.out, ← HKL.out]; exact congrArg List.length HGK.out] at e6 hr6
       subst e5
       subst e6
       have HN5 := Lib.hid (show nT ≤ 65536 from by have := HTL.out; have h2 := HNT.out; omega)
       have HR5 := Lib.hid hr5
       have HR6 := Lib.hid hr6
       clear hown hb hr5 hr6
       go_wp2_with fail
       refine (once_any HR6.out HR5.out (fun b hb => hb.2) (fun b hb => hb.2) HN5.out (by have := HON.out; rwa [← HGK.out] at this)).mono ?_
       unfold ToldB
       rintro e y2 ⟨rfl, hb⟩
       have HY2 := Lib.hid (HY1.out.on hb)
       clear hb
       go_wp2_with fail
       go_roundw
       case rel => exact ⟨i + 1, by omega, by go_num, Lib.hid HY2.out.b⟩
       case measure => simp [intOf]; omega
      ·clear hS
       have HA := Lib.hid hA
       have HKE := Lib.hid hk
       have hlen := hA.len
       have HLN := Lib.hid hlen.1
       have HD3 := Lib.hid hlen.2.1
       have HMK := Lib.hid hlen.2.2
       have s1 : (st : Int) < 100000 := by have := HK60.out; have := hlen.2.2; have := hlen.2.1; unfold posA at hst; omega
       have s2 : IntKind.i64.wrap ((st : Int) + 1) = (st : Int) + 1 := IntWalk.i64_in _ (by omega)
       have HST := Lib.hid hst
       have d3 : (d : Int) < 3 := by omega
       clear hlen hA hk hst
       obtain ⟨v, c', hopen, hkey, hl2, ⟨pre, hpre⟩, hd1, hd2'⟩ := HA.out.step HK.out
       have HKV := Lib.hid hkey
       have HL2 := Lib.hid hl2
       have HOP := Lib.hid hopen
       have HD1 := Lib.hid hd1
       have HD2 := Lib.hid hd2'
       have HFV := Lib.hid (keyV_of HS3.out.scal HS3.out.fit hpre).fit
       clear hopen hkey hl2 hpre hd1 hd2'
       go_wp2_with fail
       refine (dep_any hM.out.cur HLN.out).mono ?_
       rintro e w' ⟨rfl, rfl⟩
       clear s1 s2
       go_wp2_with fail
       have hop := open_any hM.out.cur (HGG.out _ hM.out.b).1 (HGG.out _ hM.out.b).2
       rw [HOP.out] at hop
       refine hop.mono ?_
       unfold CurDo
       rintro e x1 ⟨rfl, hc, ht⟩
       have HM1 := Lib.hid (hM.out.curDo hc ht)
       clear hc ht hop
       go_wp2_with fail
       refine (keyS_any HM1.out.cur HKV.out).mono ?_
       unfold KeySome
       rintro e x2 ⟨A13, cp13, rfl, hb⟩
       obtain ⟨u13, Hu13⟩ := name6 v (.slice A13 0 cp13)
       rw [Hu13.out]
       have HM2 := Lib.hid (HM1.out.on hb)
       clear hb
       obtain ⟨z13, Hz13⟩ := name_itV x2.heap.size
       obtain ⟨b13, Hb13⟩ := name_itV (x2.alloc (.cells #[.int .i64 0, .bool false, .int .i64 0, .string ⟨#[]⟩, .string ⟨#[]⟩, .slice none 0 0] 34))
       have HV13 := Lib.hid (show b13.heap[z13]? = some (.cells #[.int .i64 0, .bool false, .int .i64 0, .string ⟨#[]⟩, .string ⟨#[]⟩, .slice none 0 0] 34 (0, 0)) from by rw [← Hb13.out, ← Hz13.out]; exact heap_alloc_new x2 _)
       have S13 := Lib.hid (show u13.size = (#[.int .i64 0, .bool false, .int .i64 0, .string ⟨#[]⟩, .string ⟨#[]⟩, .slice none 0 0] : Array Value).size from by rw [Hu13.size]; rfl)
       have I13 := Lib.hid (show (Tryz.prog.info? 34).map (·.size) = some u13.size from infoV6.trans (congrArg some Hu13.size.symm))
       have O13 := Lib.hid (show u13.all (·.oneCell') = true from by rw [← Hu13.out]; kernel_rfl)
       go_upto_region 21 with ((with_reducible refine at_st 13 ?_); rw [Hb13.out, Hz13.out]; refine st_row rfl 34 _ _ rfl z13 (#[.int .i64 0, .bool false, .int .i64 0, .string ⟨#[]⟩, .string ⟨#[]⟩, .slice none 0 0]) u13 34 rfl rfl HV13.out S13.out I13.out O13.out ?_; intro y13 hw13 ht13)
       have HW13 := Lib.hid hw13
       have HM3 := Lib.hid (HM2.out.on (show Below x2.heap.size x2 y13 from box_below (by rw [Hb13.out, Hz13.out]; exact ht13)))
       have HZ13 := Lib.hid (show z13 ≠ zw from fun e => by have := blk_lt HM2.out.way; have h2 : x2.heap.size = z13 := Hz13.out; omega)
       clear hw13 ht13 Hb13 HV13 S13
       obtain ⟨d1, Hd1⟩ := name_itV (d + 1)
       have HL3 := Lib.hid (HL2.out.trans Hd1.out)
       have l1 : (1 : Int) ≤ d1 := by have h2 : d + 1 = d1 := Hd1.out; omega
       have l3 : (d1 : Int) ≤ 3 := by have h2 : d + 1 = d1 := Hd1.out; omega
       have wd : IntKind.i64.wrap ((d1 : Int) - 1) = (d : Int) := by have h2 : d + 1 = d1 := Hd1.out; rw [IntWalk.i64_in _ (by omega)]; omega
       have HWD := Lib.hid wd
       clear wd
       go_wp2_with fail
       refine (dep_any HM3.out.cur HL3.out).mono ?_
       rintro e w' ⟨rfl, rfl⟩
       go_upto_region 24 with fail
       refine wp_region_held_drew (S := fun W' => WkM Gs w3 q zw i T c' wt sw G S W' ∧ W'.heap[z13]? = some (.cells u13 34 (0, 0))) (by kernel_rfl) ⟨HM3.out.drew, HW13.out⟩ (fun hHeld => ?_)
       refine Boxed.out ?_
       refine take_want 0 101 (.bool true) (by kernel_rfl) (by rfl) (by kernel_rfl) (by kernel_rfl) (by kernel_rfl) (fun _ _ _ h => h) hHeld (fun w hSw => ?_) (fun hHeld => ?_)
       ·unfold runsTo
        go_simp
       try simp only [Act.put, List.setIfInBounds_toArray, List.set_cons_zero, List.set_cons_succ]
       refine take_want 1 102 (.bool false) (by kernel_rfl) (by rfl) (by kernel_rfl) (by kernel_rfl) (by kernel_rfl) (fun _ _ _ h => h) hHeld (fun w hSw => ?_) (fun hHeld => ?_)
       ·unfold runsTo
        go_simp
       try simp only [Act.put, List.setIfInBounds_toArray, List.set_cons_zero, List.set_cons_succ]
       refine take_want 2 103 (.bool false) (by kernel_rfl) (by rfl) (by kernel_rfl) (by kernel_rfl) (by kernel_rfl) (fun _ _ _ h => h) hHeld (fun w hSw => ?_) (fun hHeld => ?_)
       ·unfold runsTo
        go_simp
       try simp only [Act.put, List.setIfInBounds_toArray, List.set_cons_zero, List.set_cons_succ]
       refine take_skip 3 104 (by kernel_rfl) (by rfl) (by kernel_rfl) (by kernel_rfl) (by kernel_rfl) (fun _ _ _ h => h) hHeld (fun hHeld => ?_)
       try simp only [Act.put, List.setIfInBounds_toArray, List.set_cons_zero, List.set_cons_succ]
       refine take_skip 4 105 (by kernel_rfl) (by rfl) (by kernel_rfl) (by kernel_rfl) (by kernel_rfl) (fun _ _ _ h => h) hHeld (fun hHeld => ?_)
       try simp only [Act.put, List.setIfInBounds_toArray, List.set_cons_zero, List.set_cons_succ]
       refine take_skip 5 106 (by kernel_rfl) (by rfl) (by kernel_rfl) (by kernel_rfl) (by kernel_rfl) (fun _ _ _ h => h) hHeld (fun hHeld => ?_)
       try simp only [Act.put, List.setIfInBounds_toArray, List.set_cons_zero, List.set_cons_succ]
       refine take_skip 6 107 (by kernel_rfl) (by rfl) (by kernel_rfl) (by kernel_rfl) (by kernel_rfl) (fun _ _ _ h => h) hHeld (fun hHeld => ?_)
       try simp only [Act.put, List.setIfInBounds_toArray, List.set_cons_zero, List.set_cons_succ]
       refine take_skip 7 108 (by kernel_rfl) (by rfl) (by kernel_rfl) (by kernel_rfl) (by kernel_rfl) (fun _ _ _ h => h) hHeld (fun hHeld => ?_)
       try simp only [Act.put, List.setIfInBounds_toArray, List.set_cons_zero, List.set_cons_succ]
       refine take_skip 8 109 (by kernel_rfl) (by rfl) (by kernel_rfl) (by kernel_rfl) (by kernel_rfl) (fun _ _ _ h => h) hHeld (fun hHeld => ?_)
       try simp only [Act.put, List.setIfInBounds_toArray, List.set_cons_zero, List.set_cons_succ]
       refine take_skip 9 110 (by kernel_rfl) (by rfl) (by kernel_rfl) (by kernel_rfl) (by kernel_rfl) (fun _ _ _ h => h) hHeld (fun hHeld => ?_)
       try simp only [Act.put, List.setIfInBounds_toArray, List.set_cons_zero, List.set_cons_succ]
       refine take_want 10 111 (.bool false) (by kernel_rfl) (by rfl) (by kernel_rfl) (by kernel_rfl) (by kernel_rfl) (fun _ _ _ h => h) hHeld (fun w hSw => ?_) (fun hHeld => ?_)
       ·unfold runsTo
        go_simp
       try simp only [Act.put, List.setIfInBounds_toArray, List.set_cons_zero, List.set_cons_succ]
       refine ⟨wpAnyH_done (by kernel_rfl) ?_ _⟩
       have HM5 := Lib.hid hHeld.1
       have HW15 := Lib.hid hHeld.2
       clear hHeld
       have haddw : (⟨zw, 0, none⟩ : Addr).add (d * 6) = ⟨zw, d * 6, none⟩ := by rw [Addr.add_mid, Nat.zero_add]
       have wd : IntKind.i64.wrap ((d1 : Int) - 1) = (d : Int) := HWD.out
       have hdd1 : (d1 : Int) - 1 = (d : Int) := by have h2 : d + 1 = d1 := Hd1.out; omega
       go_upto_region 27 with (first
        | ((with_reducible refine at_dst (some 114) ?_); refine ld_armG (by rfl) 34 _ rfl rfl u13 _ (row_at HW15.out) Tryz.underlying34 rfl I13.out ?_)
        | ((with_reducible refine at_st 115 ?_); refine st_part rfl 34 _ _ rfl zw d HD3.out v (.slice A13 0 cp13) wt sw 35 u13 Hu13.out rfl rfl HM5.out.way I13.out O13.out ?_; intro w5 hw5 ht5))
       have HM6 := Lib.hid (HM5.out.setWay HD3.out hw5 ht5)
       clear hw5 ht5 haddw wd hdd1
       by_cases hd2 : d = 2
       ·have h31 : d1 = 3 := by have h2 : d + 1 = d1 := Hd1.out; omega
        obtain ⟨t, htK, hfull, hnew⟩ := HD2.out hd2
        have HNEW := Lib.hid hnew
        obtain ⟨ss, hss, hsl⟩ := way_full HLT.out hfull _ HM6.out.sl
        have htT := (HK.out.mem t).1 htK
        have HTR := Lib.hid (fun (w : World) (F : Nat → Prop) => (show TrS w F t (cellsT t ss) from ⟨HS3.out.scal t htT, HS3.out.fit t htT, ss, hsl, rfl⟩))
        have htri := fun W => triple_any i HLT.out t ss hsl W
        unfold TripIs at htri
        have hway := HM6.out.way
        rw [hss] at hway
        obtain ⟨cw, Hcw⟩ := name_itV (wayC3 (wayN i) t ss)
        obtain ⟨ct, Hct⟩ := name18 t ss
        rw [Hcw.out, Hct.out] at htri
        rw [Hcw.out] at hway
        rw [Hct.out] at HTR
        have HWAY := Lib.hid hway
        have HTRI := Lib.hid htri
        have ICW := Lib.hid (show (Tryz.prog.info? 35).map (·.size) = some cw.size from by rw [show cw.size = 18 from by rw [← Hcw.out]; rfl]; kernel_rfl)
        have ZCT := Lib.hid Hct.size
        have HGL := Lib.hid (show G.length ≤ 60 from by have := HK60.out; have h1 := HA.out.2.2; rw [h1, List.length_take]; omega)
        have HO6 := Lib.hid (HO.out _ HM6.out.b)
        subst h31
        clear hfull hnew hss hsl htT htri hway htK
        have HIO := Lib.hid hadd
        obtain ⟨nG, HnG⟩ := name_itV G.length
        obtain ⟨A9, c9, rfl⟩ : ∃ A cap, S = .slice A nG cap := by
         obtain ⟨A, cap, e⟩ := HM6.out.own.form
         rw [HnG.out] at e
         exact ⟨A, cap, e⟩
        go_upto_region 28 with fail
        refine wp_region_held_drew (S := fun W' => W'.heap[zo]? = some (.cells #[.string (wayT 0), .string (wayT 1), .string (wayT 2), .string (wayT 3), .string (wayT 4), .string (wayT 5)] 9 (0, 0)) ∧ W'.heap[zw]? = some (.cells cw 35 (0, 0))) (by kernel_rfl) ⟨HO6.out, HWAY.out⟩ (fun hHeld => ?_)
        refine Boxed.out ?_
        refine take_want 0 118 (.slice A9 nG c9) (by kernel_rfl) (by rfl) (by kernel_rfl) (by kernel_rfl) (by kernel_rfl) (fun _ _ _ h => h) hHeld (fun w hSw => ?_) (fun hHeld => ?_)
        ·unfold runsTo
         go_simp
        try simp only [Act.put, List.setIfInBounds_toArray, List.set_cons_zero, List.set_cons_succ]
        refine take_want 1 119 (.slice (some ⟨zo, 0, none⟩) 6 6) (by kernel_rfl) (by rfl) (by kernel_rfl) (by kernel_rfl) (by kernel_rfl) (fun _ _ _ h => h) hHeld (fun w hSw => ?_) (fun hHeld => ?_)
        ·unfold runsTo
         go_simp
        try simp only [Act.put, List.setIfInBounds_toArray, List.set_cons_zero, List.set_cons_succ]
        refine take_want 2 120 (.int .i64 (i : Nat)) (by kernel_rfl) (by rfl) (by kernel_rfl) (by kernel_rfl) (by kernel_rfl) (fun _ _ _ h => h) hHeld (fun w hSw => ?_) (fun hHeld => ?_)
        ·unfold runsTo
         go_simp
        try simp only [Act.put, List.setIfInBounds_toArray, List.set_cons_zero, List.set_cons_succ]
        refine take_want 3 121 (.pointer (some ⟨zo, i, none⟩)) (by kernel_rfl) (by rfl) (by kernel_rfl) (by kernel_rfl) (by kernel_rfl) (fun _ _ _ h => h) hHeld (fun w hSw => ?_) (fun hHeld => ?_)
        ·unfold runsTo
         go_simp
        try simp only [Act.put, List.setIfInBounds_toArray, List.set_cons_zero, List.set_cons_succ]
        refine take_want 4 122 (.string (wayT i)) (by kernel_rfl) (by rfl) (by kernel_rfl) (by kernel_rfl) (by kernel_rfl) (fun _ _ _ h => h) hHeld (fun w hSw => ?_) (fun hHeld => ?_)
        ·have p := order_at hSw.1 HLT.out
         unfold runsTo
         go_simp
        try simp only [Act.put, List.setIfInBounds_toArray, List.set_cons_zero, List.set_cons_succ]
        refine take_want 5 123 (.agg cw) (by kernel_rfl) (by rfl) (by kernel_rfl) (by kernel_rfl) (by kernel_rfl) (fun _ _ _ h => h) hHeld (fun w hSw => ?_) (fun hHeld => ?_)
        ·exact val_of (ld_run hSw.2 35 _ Tryz.underlying35 rfl ICW.out)
        try simp only [Act.put, List.setIfInBounds_toArray, List.set_cons_zero, List.set_cons_succ]
        refine take_call 6 (by kernel_rfl) (by rfl) (fun K hK => ?_)
        change Oper.wp _ ⟨some 124, _, _, _, _, _⟩ _ _ _ _
        go_simp
        refine (HTRI.out _).mono ?_
        rintro e x6 ⟨rfl, hb⟩
        have HM7 := Lib.hid (HM6.out.drew.on hb)
        have HS7 := Lib.hid (show x6.heap[zo]? = some (.cells #[.string (wayT 0), .string (wayT 1), .string (wayT 2), .string (wayT 3), .string (wayT 4), .string (wayT 5)] 9 (0, 0)) ∧ x6.heap[zw]? = some (.cells cw 35 (0, 0)) from ⟨(hb.block zo (blk_lt HO6.out)).trans HO6.out, (hb.block zw (blk_lt HWAY.out)).trans HWAY.out⟩)
        have HS8 := Lib.hid (show (x6.alloc (.cells ct 41)).heap[zo]? = some (.cells #[.string (wayT 0), .string (wayT 1), .string (wayT 2), .string (wayT 3), .string (wayT 4), .string (wayT 5)] 9 (0, 0)) ∧ (x6.alloc (.cells ct 41)).heap[zw]? = some (.cells cw 35 (0, 0)) from ⟨(Below.heap_alloc _ _ _ (blk_lt HS7.out.1)).trans HS7.out.1, (Below.heap_alloc _ _ _ (blk_lt HS7.out.2)).trans HS7.out.2⟩)
        clear hb
        dsimp only
        refine hK.out _ _ HS7.out (fun hHeld => ?_)
        clear hK K
        try simp only [Act.put, List.setIfInBounds_toArray, List.set_cons_zero, List.set_cons_succ]
        refine take_call 7 (by kernel_rfl) (by rfl) (fun K hK => ?_)
        change Oper.wp _ ⟨some 125, _, _, _, _, _⟩ _ _ _ _
        refine wp_bsL (.tmp 124) rfl rfl ZCT.out ?_
        refine hK.out _ _ HS8.out (fun hHeld => ?_)
        clear hK K
        try simp only [Act.put, List.setIfInBounds_toArray, List.set_cons_zero, List.set_cons_succ]
        refine take_call 8 (by kernel_rfl) (by rfl) (fun K hK => ?_)
        change Oper.wp _ ⟨some 126, _, _, _, _, _⟩ _ _ _ _
        refine wp_app_L (.tmp 118) (.tmp 125) rfl rfl HM7.out.own HnG.out rfl HTR.out (by have h2 : G.length = nG := HnG.out; have := HGL.out; omega) (fun b hb => hb.2) (fun g7 c7 w7 ho7 hg7 hl7 hw7 => ?_)
        have HM8 := Lib.hid (HM7.out.more hg7 hl7 hw7 ho7)
        have HS9 := Lib.hid (show w7.heap[zo]? = some (.cells #[.string (wayT 0), .string (wayT 1), .string (wayT 2), .string (wayT 3), .string (wayT 4), .string (wayT 5)] 9 (0, 0)) ∧ w7.heap[zw]? = some (.cells cw 35 (0, 0)) from ⟨HO.out _ HM8.out.b, (Turn.of_grown hg7).heap HS7.out.2 (fun e => by obtain ⟨_, _, _, hFF, _⟩ := HM7.out.own; have := hFF zw e.symm; omega)⟩)
        clear ho7 hg7 hl7 hw7
        refine hK.out _ _ HS9.out (fun hHeld => ?_)
        clear hK K
        try simp only [Act.put, List.setIfInBounds_toArray, List.set_cons_zero, List.set_cons_succ]
        refine take_want 9 9 (.slice (some ⟨g7, 0, none⟩) (nG + 1) c7) (by kernel_rfl) (by rfl) (by kernel_rfl) (by kernel_rfl) (by kernel_rfl) (fun _ _ _ h => h) hHeld (fun w hSw => ?_) (fun hHeld => ?_)
        ·unfold runsTo
         go_simp
        try simp only [Act.put, List.setIfInBounds_toArray, List.set_cons_zero, List.set_cons_succ]
        refine ⟨wpAnyH_done (by kernel_rfl) ?_ _⟩
        clear hHeld
        go_wp2_with fail
        go_roundg (gk - 1)
        case rel => exact ⟨c', wt.set d v, updV sw d (.slice A13 0 cp13), G ++ [t], _, st + 1, false, rfl, by go_num, rfl, HM8.out, Lib.hid (.inr (.inr ⟨m, 2, rfl, HNEW.out, by have := HST.out; unfold posA at this; unfold posB; omega, by have := HKE.out; unfold posA at this; unfold posB; have := HK60.out; have := HMK.out; omega⟩))⟩
        case measure => have := HKE.out; unfold posA at this; have := HK60.out; have := HMK.out; omega
       ·have h32 : ¬ (d1 : Int) = 3 := by have h2 : d + 1 = d1 := Hd1.out; have := HD3.out; omega
        have h33 : (d1 : Int) < 3 := by have h2 : d + 1 = d1 := Hd1.out; have := HD3.out; omega
        have HNEW := Lib.hid (HD1.out (by have := HD3.out; omega))
        go_wp2_with fail
        go_roundg (gk - 1)
        case rel => exact ⟨c', wt.set d v, updV sw d (.slice A13 0 cp13), G, S, st + 1, true, rfl, by go_num, rfl, HM6.out, Lib.hid (.inr (.inl ⟨m, d + 1, rfl, HNEW.out, by have := HST.out; unfold posA at this ⊢; omega, by have := HKE.out; unfold posA at this ⊢; have := HK60.out; have := HMK.out; omega⟩))⟩
        case measure => have := HKE.out; unfold posA at this; have := HK60.out; have := HMK.out; omega
      ·clear hS
       have HA := Lib.hid hB
       have HKE := Lib.hid hk
       have hlen := hB.len
       have HLN := Lib.hid hlen.1
       have HD3 := Lib.hid hlen.2.1
       have HMK := Lib.hid hlen.2.2
       have s1 : (st : Int) < 100000 := by have := HK60.out; have := hlen.2.2; have := hlen.2.1; unfold posB at hst; omega
       have s2 : IntKind.i64.wrap ((st : Int) + 1) = (st : Int) + 1 := IntWalk.i64_in _ (by omega)
       have HST := Lib.hid hst
       have d3 : (d : Int) < 3 := by omega
       clear hlen hB hk hst
       rcases HA.out.step HK.out with ⟨v, c', hnext, hkey, hl2, ⟨pre, hpre⟩, hlt2, hd1, hd2'⟩ | ⟨c', c'', hnext, hup, hl2, hG, hd1⟩
       ·have HKV := Lib.hid hkey
        have HL2 := Lib.hid hl2
        have HOP := Lib.hid hnext
        have HD1 := Lib.hid hd1
        have HD2 := Lib.hid hd2'
        have HLTV := Lib.hid hlt2
        have HFV := Lib.hid (keyV_of HS3.out.scal HS3.out.fit hpre).fit
        clear hnext hkey hl2 hpre hd1 hd2' hlt2
        go_wp2_with fail
        have hop := next_any hM.out.cur (HGG.out _ hM.out.b).1 (HGG.out _ hM.out.b).2
        rw [HOP.out] at hop
        refine hop.mono ?_
        unfold CurDo
        rintro e x1 ⟨rfl, hc, ht⟩
        have HM1 := Lib.hid (hM.out.curDo hc ht)
        clear hc ht hop
        clear s1 s2
        go_wp2_with fail
        refine (keyS_any HM1.out.cur HKV.out).mono ?_
        unfold KeySome
        rintro e x2 ⟨A13, cp13, rfl, hb⟩
        obtain ⟨u13, Hu13⟩ := name6 v (.slice A13 0 cp13)
        rw [Hu13.out]
        have HM2 := Lib.hid (HM1.out.on hb)
        clear hb
        obtain ⟨z13, Hz13⟩ := name_itV x2.heap.size
        obtain ⟨b13, Hb13⟩ := name_itV (x2.alloc (.cells #[.int .i64 0, .bool false, .int .i64 0, .string ⟨#[]⟩, .string ⟨#[]⟩, .slice none 0 0] 34))
        have HV13 := Lib.hid (show b13.heap[z13]? = some (.cells #[.int .i64 0, .bool false, .int .i64 0, .string ⟨#[]⟩, .string ⟨#[]⟩, .slice none 0 0] 34 (0, 0)) from by rw [← Hb13.out, ← Hz13.out]; exact heap_alloc_new x2 _)
        have S13 := Lib.hid (show u13.size = (#[.int .i64 0, .bool false, .int .i64 0, .string ⟨#[]⟩, .string ⟨#[]⟩, .slice none 0 0] : Array Value).size from by rw [Hu13.size]; rfl)
        have I13 := Lib.hid (show (Tryz.prog.info? 34).map (·.size) = some u13.size from infoV6.trans (congrArg some Hu13.size.symm))
        have O13 := Lib.hid (show u13.all (·.oneCell') = true from by rw [← Hu13.out]; kernel_rfl)
        go_upto_region 21 with ((with_reducible refine at_st 13 ?_); rw [Hb13.out, Hz13.out]; refine st_row rfl 34 _ _ rfl z13 (#[.int .i64 0, .bool false, .int .i64 0, .string ⟨#[]⟩, .string ⟨#[]⟩, .slice none 0 0]) u13 34 rfl rfl HV13.out S13.out I13.out O13.out ?_; intro y13 hw13 ht13)
        have HW13 := Lib.hid hw13
        have HM3 := Lib.hid (HM2.out.on (show Below x2.heap.size x2 y13 from box_below (by rw [Hb13.out, Hz13.out]; exact ht13)))
        have HZ13 := Lib.hid (show z13 ≠ zw from fun e => by have := blk_lt HM2.out.way; have h2 : x2.heap.size = z13 := Hz13.out; omega)
        clear hw13 ht13 Hb13 HV13 S13
        obtain ⟨d1, Hd1⟩ := name_itV (d + 1)
        have HL3 := Lib.hid (HL2.out.trans Hd1.out)
        have l1 : (1 : Int) ≤ d1 := by have h2 : d + 1 = d1 := Hd1.out; omega
        have l3 : (d1 : Int) ≤ 3 := by have h2 : d + 1 = d1 := Hd1.out; omega
        have wd : IntKind.i64.wrap ((d1 : Int) - 1) = (d : Int) := by have h2 : d + 1 = d1 := Hd1.out; rw [IntWalk.i64_in _ (by omega)]; omega
        have HWD := Lib.hid wd
        clear wd
        go_wp2_with fail
        refine (dep_any HM3.out.cur HL3.out).mono ?_
        rintro e w' ⟨rfl, rfl⟩
        go_upto_region 24 with fail
        obtain ⟨Ad, cd, ed⟩ := HM3.out.sl d HD3.out
        obtain ⟨ud, Hud⟩ := name6 (wt.get d) (sw d)
        have ID := Lib.hid (infoV6.trans (congrArg some Hud.size.symm))
        obtain ⟨om, Hom⟩ := name_itV (ordV (wt.get d) v)
        have hm0 : ¬ (0 : Int) ≤ om := by have h2 : ordV (wt.get d) v = om := Hom.out; have := HLTV.out; omega
        have HKW := Lib.hid (WkB.keyV HK.out HS3.out.fit HA.out)
        have hor := fun W => refOrder_any (wt.get d) v (sw d) (.slice A13 0 cp13) W HKW.out.k5 HKW.out.fit HFV.out
        unfold OrdIs at hor
        rw [Hud.out, Hu13.out, Hom.out] at hor
        have HOR := Lib.hid hor
        have HWDD := Lib.hid (fun (W : World) (hw : W.heap[zw]? = some (.cells (cellsT wt sw) 35 (0, 0))) (jj : Nat) (hj : jj < ud.size) => (show W.cell? ((⟨zw, d * 6, none⟩ : Addr).add jj) = ud[jj]? from by
         rw [Addr.add_mid, cell_of_row W zw (d * 6 + jj) _ _ _ hw, ← Hud.out]
         exact cellsT_part wt sw d HD3.out jj (by rwa [Hud.size] at hj)))
        clear hor ed
        refine wp_region_held_drew (S := fun W' => WkM Gs w3 q zw i T c' wt sw G S W' ∧ W'.heap[z13]? = some (.cells u13 34 (0, 0))) (by kernel_rfl) ⟨HM3.out.drew, HW13.out⟩ (fun hHeld => ?_)
        refine Boxed.out ?_
        refine take_want 0 101 (.bool false) (by kernel_rfl) (by rfl) (by kernel_rfl) (by kernel_rfl) (by kernel_rfl) (fun _ _ _ h => h) hHeld (fun w hSw => ?_) (fun hHeld => ?_)
        ·unfold runsTo
         go_simp
        try simp only [Act.put, List.setIfInBounds_toArray, List.set_cons_zero, List.set_cons_succ]
        refine take_want 1 102 (.bool true) (by kernel_rfl) (by rfl) (by kernel_rfl) (by kernel_rfl) (by kernel_rfl) (fun _ _ _ h => h) hHeld (fun w hSw => ?_) (fun hHeld => ?_)
        ·unfold runsTo
         go_simp
        try simp only [Act.put, List.setIfInBounds_toArray, List.set_cons_zero, List.set_cons_succ]
        refine take_want 2 103 (.bool true) (by kernel_rfl) (by rfl) (by kernel_rfl) (by kernel_rfl) (by kernel_rfl) (fun _ _ _ h => h) hHeld (fun w hSw => ?_) (fun hHeld => ?_)
        ·unfold runsTo
         go_simp
        try simp only [Act.put, List.setIfInBounds_toArray, List.set_cons_zero, List.set_cons_succ]
        refine take_want 3 104 (.int .i64 (d1 : Nat)) (by kernel_rfl) (by rfl) (by kernel_rfl) (by kernel_rfl) (by kernel_rfl) (fun _ _ _ h => h) hHeld (fun w hSw => ?_) (fun hHeld => ?_)
        ·unfold runsTo
         go_simp
        try simp only [Act.put, List.setIfInBounds_toArray, List.set_cons_zero, List.set_cons_succ]
        refine take_want 4 105 (.int .i64 (d : Nat)) (by kernel_rfl) (by rfl) (by kernel_rfl) (by kernel_rfl) (by kernel_rfl) (fun _ _ _ h => h) hHeld (fun w hSw => ?_) (fun hHeld => ?_)
        ·have p := HWD.out
         unfold runsTo
         go_simp
        try simp only [Act.put, List.setIfInBounds_toArray, List.set_cons_zero, List.set_cons_succ]
        refine take_want 5 106 (.pointer (some ⟨zw, d * 6, none⟩)) (by kernel_rfl) (by rfl) (by kernel_rfl) (by kernel_rfl) (by kernel_rfl) (fun _ _ _ h => h) hHeld (fun w hSw => ?_) (fun hHeld => ?_)
        ·exact val_of (idx_wayv zw d HD3.out w)
        try simp only [Act.put, List.setIfInBounds_toArray, List.set_cons_zero, List.set_cons_succ]
        refine take_want 6 107 (.agg ud) (by kernel_rfl) (by rfl) (by kernel_rfl) (by kernel_rfl) (by kernel_rfl) (fun _ _ _ h => h) hHeld (fun w hSw => ?_) (fun hHeld => ?_)
        ·have p := run_loadVar_at w ⟨zw, d * 6, none⟩ 34 ud _ (HWDD.out w hSw.1.way) Tryz.underlying34 rfl ID.out
         exact val_of (by simp only [Instr.loadAt, Instr.sureAddr, Sem.run_bind]; exact p)
        try simp only [Act.put, List.setIfInBounds_toArray, List.set_cons_zero, List.set_cons_succ]
        refine take_want 7 108 (.agg u13) (by kernel_rfl) (by rfl) (by kernel_rfl) (by kernel_rfl) (by kernel_rfl) (fun _ _ _ h => h) hHeld (fun w hSw => ?_) (fun hHeld => ?_)
        ·exact val_of (ld_run hSw.2 34 _ Tryz.underlying34 rfl I13.out)
        try simp only [Act.put, List.setIfInBounds_toArray, List.set_cons_zero, List.set_cons_succ]
        refine take_call 8 (by kernel_rfl) (by rfl) (fun K hK => ?_)
        change Oper.wp _ ⟨some 109, _, _, _, _, _⟩ _ _ _ _
        go_simp
        refine (HOR.out _).mono ?_
        rintro e x4 ⟨rfl, hb⟩
        have HS4 := Lib.hid (show WkM Gs w3 q zw i T c' wt sw G S x4 ∧ x4.heap[z13]? = some (.cells u13 34 (0, 0)) from ⟨HM3.out.drew.on hb, (hb.block z13 (blk_lt HW13.out)).trans HW13.out⟩)
        clear hb
        dsimp only
        refine hK.out _ _ HS4.out (fun hHeld => ?_)
        clear hK K
        try simp only [Act.put, List.setIfInBounds_toArray, List.set_cons_zero, List.set_cons_succ]
        refine take_want 9 110 (.bool false) (by kernel_rfl) (by rfl) (by kernel_rfl) (by kernel_rfl) (by kernel_rfl) (fun _ _ _ h => h) hHeld (fun w hSw => ?_) (fun hHeld => ?_)
        ·unfold runsTo
         go_simp
        try simp only [Act.put, List.setIfInBounds_toArray, List.set_cons_zero, List.set_cons_succ]
        refine take_want 10 111 (.bool false) (by kernel_rfl) (by rfl) (by kernel_rfl) (by kernel_rfl) (by kernel_rfl) (fun _ _ _ h => h) hHeld (fun w hSw => ?_) (fun hHeld => ?_)
        ·unfold runsTo
         go_simp
        try simp only [Act.put, List.setIfInBounds_toArray, List.set_cons_zero, List.set_cons_succ]
        refine ⟨wpAnyH_done (by kernel_rfl) ?_ _⟩
        have HM5 := Lib.hid hHeld.1
        have HW15 := Lib.hid hHeld.2
        clear hHeld
        have haddw : (⟨zw, 0, none⟩ : Addr).add (d * 6) = ⟨zw, d * 6, none⟩ := by rw [Addr.add_mid, Nat.zero_add]
        have wd : IntKind.i64.wrap ((d1 : Int) - 1) = (d : Int) := HWD.out
        have hdd1 : (d1 : Int) - 1 = (d : Int) := by have h2 : d + 1 = d1 := Hd1.out; omega
        go_upto_region 27 with (first
         | ((with_reducible refine at_dst (some 114) ?_); refine ld_armG (by rfl) 34 _ rfl rfl u13 _ (row_at HW15.out) Tryz.underlying34 rfl I13.out ?_)
         | ((with_reducible refine at_st 115 ?_); refine st_part rfl 34 _ _ rfl zw d HD3.out v (.slice A13 0 cp13) wt sw 35 u13 Hu13.out rfl rfl HM5.out.way I13.out O13.out ?_; intro w5 hw5 ht5))
        have HM6 := Lib.hid (HM5.out.setWay HD3.out hw5 ht5)
        clear hw5 ht5 haddw wd hdd1
        by_cases hd2 : d = 2
        ·have h31 : d1 = 3 := by have h2 : d + 1 = d1 := Hd1.out; omega
         obtain ⟨t, htK, hfull, hnew⟩ := HD2.out hd2
         have HNEW := Lib.hid hnew
         obtain ⟨ss, hss, hsl⟩ := way_full HLT.out hfull _ HM6.out.sl
         have htT := (HK.out.mem t).1 htK
         have HTR := Lib.hid (fun (w : World) (F : Nat → Prop) => (show TrS w F t (cellsT t ss) from ⟨HS3.out.scal t htT, HS3.out.fit t htT, ss, hsl, rfl⟩))
         have htri := fun W => triple_any i HLT.out t ss hsl W
         unfold TripIs at htri
         have hway := HM6.out.way
         rw [hss] at hway
         obtain ⟨cw, Hcw⟩ := name_itV (wayC3 (wayN i) t ss)
         obtain ⟨ct, Hct⟩ := name18 t ss
         rw [Hcw.out, Hct.out] at htri
         rw [Hcw.out] at hway
         rw [Hct.out] at HTR
         have HWAY := Lib.hid hway
         have HTRI := Lib.hid htri
         have ICW := Lib.hid (show (Tryz.prog.info? 35).map (·.size) = some cw.size from by rw [show cw.size = 18 from by rw [← Hcw.out]; rfl]; kernel_rfl)
         have ZCT := Lib.hid Hct.size
         have HGL := Lib.hid (show G.length ≤ 60 from by have := HK60.out; have h1 := HA.out.2.2; rw [h1, List.length_take]; omega)
         have HO6 := Lib.hid (HO.out _ HM6.out.b)
         subst h31
         clear hfull hnew hss hsl htT htri hway htK
         have HIO := Lib.hid hadd
         obtain ⟨nG, HnG⟩ := name_itV G.length
         obtain ⟨A9, c9, rfl⟩ : ∃ A cap, S = .slice A nG cap := by
          obtain ⟨A, cap, e⟩ := HM6.out.own.form
          rw [HnG.out] at e
          exact ⟨A, cap, e⟩
         go_upto_region 28 with fail
         refine wp_region_held_drew (S := fun W' => W'.heap[zo]? = some (.cells #[.string (wayT 0), .string (wayT 1), .string (wayT 2), .string (wayT 3), .string (wayT 4), .string (wayT 5)] 9 (0, 0)) ∧ W'.heap[zw]? = some (.cells cw 35 (0, 0))) (by kernel_rfl) ⟨HO6.out, HWAY.out⟩ (fun hHeld => ?_)
         refine Boxed.out ?_
         refine take_want 0 118 (.slice A9 nG c9) (by kernel_rfl) (by rfl) (by kernel_rfl) (by kernel_rfl) (by kernel_rfl) (fun _ _ _ h => h) hHeld (fun w hSw => ?_) (fun hHeld => ?_)
         ·unfold runsTo
          go_simp
         try simp only [Act.put, List.setIfInBounds_toArray, List.set_cons_zero, List.set_cons_succ]
         refine take_want 1 119 (.slice (some ⟨zo, 0, none⟩) 6 6) (by kernel_rfl) (by rfl) (by kernel_rfl) (by kernel_rfl) (by kernel_rfl) (fun _ _ _ h => h) hHeld (fun w hSw => ?_) (fun hHeld => ?_)
         ·unfold runsTo
          go_simp
         try simp only [Act.put, List.setIfInBounds_toArray, List.set_cons_zero, List.set_cons_succ]
         refine take_want 2 120 (.int .i64 (i : Nat)) (by kernel_rfl) (by rfl) (by kernel_rfl) (by kernel_rfl) (by kernel_rfl) (fun _ _ _ h => h) hHeld (fun w hSw => ?_) (fun hHeld => ?_)
         ·unfold runsTo
          go_simp
         try simp only [Act.put, List.setIfInBounds_toArray, List.set_cons_zero, List.set_cons_succ]
         refine take_want 3 121 (.pointer (some ⟨zo, i, none⟩)) (by kernel_rfl) (by rfl) (by kernel_rfl) (by kernel_rfl) (by kernel_rfl) (fun _ _ _ h => h) hHeld (fun w hSw => ?_) (fun hHeld => ?_)
         ·unfold runsTo
          go_simp
         try simp only [Act.put, List.setIfInBounds_toArray, List.set_cons_zero, List.set_cons_succ]
         refine take_want 4 122 (.string (wayT i)) (by kernel_rfl) (by rfl) (by kernel_rfl) (by kernel_rfl) (by kernel_rfl) (fun _ _ _ h => h) hHeld (fun w hSw => ?_) (fun hHeld => ?_)
         ·have p := order_at hSw.1 HLT.out
          unfold runsTo
          go_simp
         try simp only [Act.put, List.setIfInBounds_toArray, List.set_cons_zero, List.set_cons_succ]
         refine take_want 5 123 (.agg cw) (by kernel_rfl) (by rfl) (by kernel_rfl) (by kernel_rfl) (by kernel_rfl) (fun _ _ _ h => h) hHeld (fun w hSw => ?_) (fun hHeld => ?_)
         ·exact val_of (ld_run hSw.2 35 _ Tryz.underlying35 rfl ICW.out)
         try simp only [Act.put, List.setIfInBounds_toArray, List.set_cons_zero, List.set_cons_succ]
         refine take_call 6 (by kernel_rfl) (by rfl) (fun K hK => ?_)
         change Oper.wp _ ⟨some 124, _, _, _, _, _⟩ _ _ _ _
         go_simp
         refine (HTRI.out _).mono ?_
         rintro e x6 ⟨rfl, hb⟩
         have HM7 := Lib.hid (HM6.out.drew.on hb)
         have HS7 := Lib.hid (show x6.heap[zo]? = some (.cells #[.string (wayT 0), .string (wayT 1), .string (wayT 2), .string (wayT 3), .string (wayT 4), .string (wayT 5)] 9 (0, 0)) ∧ x6.heap[zw]? = some (.cells cw 35 (0, 0)) from ⟨(hb.block zo (blk_lt HO6.out)).trans HO6.out, (hb.block zw (blk_lt HWAY.out)).trans HWAY.out⟩)
         have HS8 := Lib.hid (show (x6.alloc (.cells ct 41)).heap[zo]? = some (.cells #[.string (wayT 0), .string (wayT 1), .string (wayT 2), .string (wayT 3), .string (wayT 4), .string (wayT 5)] 9 (0, 0)) ∧ (x6.alloc (.cells ct 41)).heap[zw]? = some (.cells cw 35 (0, 0)) from ⟨(Below.heap_alloc _ _ _ (blk_lt HS7.out.1)).trans HS7.out.1, (Below.heap_alloc _ _ _ (blk_lt HS7.out.2)).trans HS7.out.2⟩)
         clear hb
         dsimp only
         refine hK.out _ _ HS7.out (fun hHeld => ?_)
         clear hK K
         try simp only [Act.put, List.setIfInBounds_toArray, List.set_cons_zero, List.set_cons_succ]
         refine take_call 7 (by kernel_rfl) (by rfl) (fun K hK => ?_)
         change Oper.wp _ ⟨some 125, _, _, _, _, _⟩ _ _ _ _
         refine wp_bsL (.tmp 124) rfl rfl ZCT.out ?_
         refine hK.out _ _ HS8.out (fun hHeld => ?_)
         clear hK K
         try simp only [Act.put, List.setIfInBounds_toArray, List.set_cons_zero, List.set_cons_succ]
         refine take_call 8 (by kernel_rfl) (by rfl) (fun K hK => ?_)
         change Oper.wp _ ⟨some 126, _, _, _, _, _⟩ _ _ _ _
         refine wp_app_L (.tmp 118) (.tmp 125) rfl rfl HM7.out.own HnG.out rfl HTR.out (by have h2 : G.length = nG := HnG.out; have := HGL.out; omega) (fun b hb => hb.2) (fun g7 c7 w7 ho7 hg7 hl7 hw7 => ?_)
         have HM8 := Lib.hid (HM7.out.more hg7 hl7 hw7 ho7)
         have HS9 := Lib.hid (show w7.heap[zo]? = some (.cells #[.string (wayT 0), .string (wayT 1), .string (wayT 2), .string (wayT 3), .string (wayT 4), .string (wayT 5)] 9 (0, 0)) ∧ w7.heap[zw]? = some (.cells cw 35 (0, 0)) from ⟨HO.out _ HM8.out.b, (Turn.of_grown hg7).heap HS7.out.2 (fun e => by obtain ⟨_, _, _, hFF, _⟩ := HM7.out.own; have := hFF zw e.symm; omega)⟩)
         clear ho7 hg7 hl7 hw7
         refine hK.out _ _ HS9.out (fun hHeld => ?_)
         clear hK K
         try simp only [Act.put, List.setIfInBounds_toArray, List.set_cons_zero, List.set_cons_succ]
         refine take_want 9 9 (.slice (some ⟨g7, 0, none⟩) (nG + 1) c7) (by kernel_rfl) (by rfl) (by kernel_rfl) (by kernel_rfl) (by kernel_rfl) (fun _ _ _ h => h) hHeld (fun w hSw => ?_) (fun hHeld => ?_)
         ·unfold runsTo
          go_simp
         try simp only [Act.put, List.setIfInBounds_toArray, List.set_cons_zero, List.set_cons_succ]
         refine ⟨wpAnyH_done (by kernel_rfl) ?_ _⟩
         clear hHeld
         go_wp2_with fail
         go_roundg (gk - 8)
         case rel => exact ⟨c', wt.set d v, updV sw d (.slice A13 0 cp13), G ++ [t], _, st + 1, false, rfl, by go_num, rfl, HM8.out, Lib.hid (.inr (.inr ⟨m + 1, 2, rfl, HNEW.out, by have := HST.out; unfold posB at this ⊢; omega, by have := HKE.out; unfold posB at this ⊢; have := HK60.out; have := HNEW.out.len.2.2; omega⟩))⟩
         case measure => have := HKE.out; unfold posB at this; have := HK60.out; have := HMK.out; omega
        ·have h32 : ¬ (d1 : Int) = 3 := by have h2 : d + 1 = d1 := Hd1.out; have := HD3.out; omega
         have h33 : (d1 : Int) < 3 := by have h2 : d + 1 = d1 := Hd1.out; have := HD3.out; omega
         have HNEW := Lib.hid (HD1.out (by have := HD3.out; omega))
         go_wp2_with fail
         go_roundg (gk - (4 + 2 * d))
         case rel => exact ⟨c', wt.set d v, updV sw d (.slice A13 0 cp13), G, S, st + 1, true, rfl, by go_num, rfl, HM6.out, Lib.hid (.inr (.inl ⟨m + 1, d + 1, rfl, HNEW.out, by have := HST.out; have := HD3.out; unfold posB at *; unfold posA; omega, by have := HKE.out; unfold posB at this; unfold posA; have := HK60.out; have := HNEW.out.len.2.2; have := HD3.out; omega⟩))⟩
         case measure => have := HKE.out; unfold posB at this; have := HK60.out; have := HMK.out; omega
       ·have HOP := Lib.hid hnext
        have HUP := Lib.hid hup
        have HL2 := Lib.hid hl2
        have HGE := Lib.hid hG
        have HD1 := Lib.hid hd1
        clear hnext hup hl2 hG hd1
        go_wp2_with fail
        have hop := next_any hM.out.cur (HGG.out _ hM.out.b).1 (HGG.out _ hM.out.b).2
        rw [HOP.out] at hop
        refine hop.mono ?_
        unfold CurDo
        rintro e x1 ⟨rfl, hc, ht⟩
        have HM1 := Lib.hid (hM.out.curDo hc ht)
        clear hc ht hop
        clear s1 s2
        go_wp2_with fail
        have hop := up_any HM1.out.cur
        rw [HUP.out] at hop
        refine hop.mono ?_
        unfold CurDo
        rintro e x2 ⟨rfl, hc, ht⟩
        have HM2 := Lib.hid (HM1.out.curDo hc ht)
        clear hc ht hop
        by_cases hd0 : d = 0
        ·have HGK := Lib.hid (HGE.out hd0)
         have HL0 := Lib.hid (HL2.out.trans hd0)
         clear hd0
         go_wp2_with fail
         refine (dep_any HM2.out.cur HL0.out).mono ?_
         rintro e w' ⟨rfl, rfl⟩
         go_wp2_with fail
         refine (all_any (HS.out _ HM2.out.b) (fun b hb => Nat.lt_of_lt_of_le (HFL3.out b hb) HM2.out.b.size)).mono ?_
         rintro e y1 ⟨r1, rfl, hown, hb⟩
         have HY1 := Lib.hid (HM2.out.on hb)
         obtain ⟨A5, c5, e5, _, hr5⟩ := hown.rd TrS.good
         obtain ⟨A6, c6, e6, _, hr6⟩ := HY1.out.own.rd TrS.good
         obtain ⟨nT, HNT⟩ := name_itV T.length
         rw [HNT.out] at e5 hr5
         rw [show G.length = nT from by rw [← HNT.out, ← HKL.out]; exact congrArg List.length HGK.out] at e6 hr6
         subst e5
         subst e6
         have HN5 := Lib.hid (show nT ≤ 65536 from by have := HTL.out; have h2 := HNT.out; omega)
         have HR5 := Lib.hid hr5
         have HR6 := Lib.hid hr6
         clear hown hb hr5 hr6
         go_wp2_with fail
         refine (once_any HR6.out HR5.out (fun b hb => hb.2) (fun b hb => hb.2) HN5.out (by have := HON.out; rwa [← HGK.out] at this)).mono ?_
         unfold ToldB
         rintro e y2 ⟨rfl, hb⟩
         have HY2 := Lib.hid (HY1.out.on hb)
         clear hb
         go_wp2_with fail
         go_roundw
         case rel => exact ⟨i + 1, by omega, by go_num, Lib.hid HY2.out.b⟩
         case measure => simp [intOf]; omega
        ·obtain ⟨e, he⟩ : ∃ e, d = e + 1 := ⟨d - 1, by omega⟩
         have HNEW := Lib.hid (HD1.out e he)
         have hd0' : ¬ (d : Int) = 0 := by omega
         have HHE := Lib.hid he
         clear he
         go_wp2_with fail
         refine (dep_any HM2.out.cur HL2.out).mono ?_
         rintro e w' ⟨rfl, rfl⟩
         go_wp2_with fail
         go_roundg (gk - 1)
         case rel => exact ⟨c'', wt, sw, G, S, st + 1, false, rfl, by go_num, rfl, HM2.out, Lib.hid (.inr (.inr ⟨m, e, rfl, HNEW.out, by have := HST.out; have h2 : d = e + 1 := HHE.out; unfold posB at this ⊢; omega, by have := HKE.out; have h2 : d = e + 1 := HHE.out; unfold posB at this ⊢; have := HK60.out; have := HMK.out; omega⟩))⟩
         case measure => have := HKE.out; unfold posB at this; have := HK60.out; have := HMK.out; omega
    ·have e1 : ¬ (i : Int) < 6 := by omega
     have HBE := Lib.hid (HB3.out.trans (hM.out.mono HB3.out.size))
     go_wp2_with fail
     refine (HW.out _ HBE.out).mono ?_
     rintro e w9 ⟨rfl, hb9⟩
     have HB9 := Lib.hid hb9
     clear hb9
     go_wp2_with fail
     go_ret
     exact ⟨rfl, HB9.out⟩
end Go.Proofs.YtijciakkfpjjbaaGreatDoor
