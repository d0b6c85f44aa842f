/- TriplesSeeks answers true where what it reads is of bulk at most 1048576: any triples, any values: to seek a value is to step until one not before it stands there; no other condition. -/
import Derived.Test.YtijciakkfpjjbaaGreatDoorMK
import Derived.Test.YtijciakkfpjjbaaGreatDoorMN
import Derived.Test.YtijciakkfpjjbaaGreatDoorCards
import Derived.Test.YtijciakkfpjjbaaGreatDoorTie
import Derived.ProofKit
import Derived.OpenShut
import Derived.ChangeSame
import Derived.Lib.SmallJoins
import Derived.Carry
import Derived.Lay
import Derived.LaidOnce
import Derived.SevenTiedAt
import Derived.Deep.DeepHandedRow
import Derived.Shelf.Vars
import Derived.Stop.LaidErr
import Derived.Lib.LaidTab
namespace Go.Proofs.YtijciakkfpjjbaaGreatDoor
open Go Go.RowKit Go.Maps

set_option maxRecDepth 100000 in
set_option maxHeartbeats 16000000 in
theorem seeks_any (L : List Trip) (hok : ∀ t, t ∈ L → OkT t) (D : List (Int × Val)) (hfd : ∀ o, o ∈ D → FitV o.2) (F : Nat → Prop) (A1 A2 A3 : Option Addr) (nL nP nD c1 c2 c3 : Nat) (ord : ByteArray) (w : World) (hF : ∀ b, F b → b < w.heap.size)
    (hL : SRd 18 TrR w F L A1 nL) (hD : SRd 7 OpR w F D A3 nD) (hnL : nL ≤ 1000000000) (hnD : nD ≤ 1000000000) (hgb : GlobB w) (hgt : GlobT w) :
    Calls Tryz.prog 5 #[.agg #[.slice A1 nL c1, .slice A2 nP c2, .string ord, .slice A3 nD c3]] w (ToldB true w) := by
 have HG := Lib.hid (And.intro hgb hgt)
 have HLD := Lib.hid (fun (W : World) (hb : Below w.heap.size w W) => loadT_any L hok F A1 nL c1 W (fun b h => Nat.lt_of_lt_of_le (hF b h) hb.size) (hL.under TrR.good hb hF) hnL (glob_under hgb hb) (globT_under hgt hb))
 have HDD := Lib.hid (fun (W : World) (hb : Below w.heap.size w W) => hD.under OpR.good hb hF)
 have HDL := Lib.hid hD.1
 have HFD := Lib.hid hfd
 have HW := Lib.hid (fun (W : World) (hb : Below w.heap.size w W) => (wakes5_any W (glob_under hgb hb) (globT_under hgt hb)).mono (fun e w' (h : e = .returned (.bool true) ∧ Below W.heap.size W w') => (⟨h.1, hb.trans (h.2.mono hb.size)⟩ : e = .returned (.bool true) ∧ Below w.heap.size w w')))
 have HF := Lib.hid hF
 clear hL hD hok hfd hgb hgt hF
 obtain ⟨z, HZ⟩ := name_itV w.heap.size
 obtain ⟨w1, HW1⟩ := name_itV (w.alloc (.cells #[.slice A1 nL c1, .slice A2 nP c2, .string ord, .slice A3 nD c3] 49))
 have HB1 := Lib.hid (show Below w.heap.size w w1 from by rw [← HW1.out]; exact (Below.refl _ _).alloc (Nat.le_refl _) _)
 have HK1 := Lib.hid (show w1.heap[z]? = some (.cells #[.slice A1 nL c1, .slice A2 nP c2, .string ord, .slice A3 nD c3] 49 (0, 0)) from by rw [← HW1.out, ← HZ.out]; exact heap_alloc_new w _)
 have b0 : w1.cell? ⟨z, 0, none⟩ = some (.slice A1 nL c1) := Lib.cell_of_heap HK1.out 0
 go_enter Tryz.func5, Tryz.ntmps5
 go_upto_region 1 with fail
 rw [HW1.out, HZ.out]
 clear HW1
 by_cases hbig : 60 < nL
 ·have e1 : (60 : Int) < nL := by omega
  go_wp2_with fail
  refine (HW.out w1 HB1.out).mono ?_
  rintro e w2 ⟨rfl, hb2⟩
  have HB2 := Lib.hid hb2
  clear hb2
  go_wp2_with fail
  go_ret
  exact ⟨rfl, HB2.out⟩
 ·have e1 : ¬ (60 : Int) < nL := by omega
  go_wp2_with fail
  refine (HLD.out w1 HB1.out).mono ?_
  rintro e w2 (⟨_, rfl, hb⟩ | ⟨_, _, c, rfl, hb, hs⟩)
  ·have HB2 := Lib.hid (HB1.out.trans (hb.mono HB1.out.size))
   clear hb b0
   go_wp2_with fail
   refine (HW.out w2 HB2.out).mono ?_
   rintro e w3 ⟨rfl, hb3⟩
   have HB3 := Lib.hid hb3
   clear hb3
   go_wp2_with fail
   go_ret
   exact ⟨rfl, HB3.out⟩
  ·have HB2 := Lib.hid (HB1.out.trans (hb.mono HB1.out.size))
   have HK2 := Lib.hid ((hb.block z (blk_lt HK1.out)).trans HK1.out)
   obtain ⟨G, HGN⟩ := name_itV (fun b => w1.heap.size ≤ b ∧ b < w2.heap.size)
   rw [HGN.out] at hs
   have HFL := Lib.hid (show ∀ b, G b → b < w2.heap.size from by rw [← HGN.out]; exact fun b h => h.2)
   obtain ⟨T, HT⟩ := name_itV (loadR (along (wayN 0)) L)
   rw [HT.out] at hs
   have HS2 := Lib.hid hs
   clear hs hb b0 HGN HT e1 hbig
   obtain ⟨zo, HZO⟩ := name_itV w2.heap.size
   obtain ⟨w3, HW3⟩ := name_itV (w2.alloc (.cells #[.string (wayT 0), .string (wayT 1), .string (wayT 2), .string (wayT 3), .string (wayT 4), .string (wayT 5)] 9))
   have HB23 := Lib.hid (show Below w2.heap.size w2 w3 from by rw [← HW3.out]; exact (Below.refl _ _).alloc (Nat.le_refl _) _)
   have HB3 := Lib.hid (HB2.out.trans (HB23.out.mono HB2.out.size))
   have HO3 := Lib.hid (show w3.heap[zo]? = some (.cells #[.string (wayT 0), .string (wayT 1), .string (wayT 2), .string (wayT 3), .string (wayT 4), .string (wayT 5)] 9 (0, 0)) from by rw [← HW3.out, ← HZO.out]; exact heap_alloc_new w2 _)
   have HBS := Lib.hid (show (Instr.buildSlice 28 6 #[(0, .string ⟨#[115, 112, 111]⟩), (1, .string ⟨#[115, 111, 112]⟩), (2, .string ⟨#[112, 115, 111]⟩), (3, .string ⟨#[112, 111, 115]⟩), (4, .string ⟨#[111, 115, 112]⟩), (5, .string ⟨#[111, 112, 115]⟩)]).run Tryz.prog w2 = .ok (.slice (some ⟨zo, 0, none⟩) 6 6) w3 from by rw [← HZO.out, ← HW3.out]; exact bs_orders w2)
   have HK3 := Lib.hid ((HB23.out.block z (blk_lt HK2.out)).trans HK2.out)
   have HFL3 := Lib.hid (fun b (h : G b) => Nat.lt_of_lt_of_le (HFL.out b h) HB23.out.size)
   have HS3 := Lib.hid (HS2.out.keep fun b hb => HB23.out.block b (HFL.out b hb))
   have HDL3 := Lib.hid (fun (W : World) (hb : Below w3.heap.size w3 W) => HDD.out W (HB3.out.trans (hb.mono HB3.out.size)))
   have HZ3 := Lib.hid (fun (W : World) (hb : Below w3.heap.size w3 W) => (hb.block z (blk_lt HK3.out)).trans HK3.out)
   have HO := Lib.hid (fun (W : World) (hb : Below w3.heap.size w3 W) => (hb.block zo (blk_lt HO3.out)).trans HO3.out)
   have HS := Lib.hid (fun (W : World) (hb : Below w3.heap.size w3 W) => HS3.out.keep fun b hb2 => hb.block b (HFL3.out b hb2))
   have HGG := Lib.hid (fun (W : World) (hb : Below w3.heap.size w3 W) => And.intro (glob_under HG.out.1 (HB3.out.trans (hb.mono HB3.out.size))) (globT_under HG.out.2 (HB3.out.trans (hb.mono HB3.out.size))))
   clear HW3 HZO
   go_wp2_with ((with_reducible refine at_dst (some 39) ?_); refine bs_arm rfl 28 6 _ rfl #[(0, .string ⟨#[115, 112, 111]⟩), (1, .string ⟨#[115, 111, 112]⟩), (2, .string ⟨#[112, 115, 111]⟩), (3, .string ⟨#[112, 111, 115]⟩), (4, .string ⟨#[111, 115, 112]⟩), (5, .string ⟨#[111, 112, 115]⟩)] (by kernel_rfl) (.slice (some ⟨zo, 0, none⟩) 6 6) w3 HBS.out ?_)
   go_loopw [6] (fun s6 wx => ∃ i : Nat, i ≤ nD ∧ i ≤ 12 ∧ s6 = .int .i64 (i : Nat) ∧ Hid (Below w3.heap.size w3 wx)) (fun s6 _ => nD - (intOf s6).toNat)
   case atStart => exact ⟨0, by omega, by omega, rfl, Lib.hid (Below.refl _ _)⟩
   case round =>
    obtain ⟨i, hi, hi12, rfl, hM⟩ := hrel
    have hz3 : wr.cell? ⟨z, 3, none⟩ = some (.slice A3 nD c3) := Lib.cell_of_heap (HZ3.out wr hM.out) 3
    by_cases hlt : i < nD ∧ i < 12
    ·have e1 : (i : Int) < nD := by omega
     have e2 : (i : Int) < 12 := by omega
     have hr6 : i % 6 < 6 := Nat.mod_lt _ (by omega)
     have ho6 : wr.cell? ⟨zo, i % 6, none⟩ = some (.string (wayT (i % 6))) := order_at (HO.out wr hM.out) hr6
     go_wp2_with fail
     refine (cursor_any (HS.out wr hM.out) (fun b hb => Nat.lt_of_lt_of_le (HFL3.out b hb) hM.out.size) (i % 6) hr6).mono ?_
     rintro e v1 ⟨q1, rfl, hc1, hb1, hq1⟩
     have HV1 := Lib.hid (hM.out.trans (hb1.mono hM.out.size))
     have HC1 := Lib.hid hc1
     have HQ1 := Lib.hid (Nat.le_trans hM.out.size hq1)
     clear hc1 hb1 hq1 ho6 hz3
     have ho6 : v1.cell? ⟨zo, i % 6, none⟩ = some (.string (wayT (i % 6))) := order_at (HO.out v1 HV1.out) hr6
     go_wp2_with fail
     refine (cursor_any (HS.out v1 HV1.out) (fun b hb => Nat.lt_of_lt_of_le (HFL3.out b hb) HV1.out.size) (i % 6) hr6).mono ?_
     rintro e v2 ⟨q2, rfl, hc2, hb2, hq2⟩
     have HTW := Lib.hid (show Two G w3 q1 q2 (i % 6) T ⟨[], false⟩ ⟨[], false⟩ v2 from ⟨HV1.out.trans (hb2.mono HV1.out.size), HC1.out.on hb2, hc2, by have := HC1.out.lt; omega, HQ1.out, Nat.le_trans HV1.out.size hq2⟩)
     clear hc2 hb2 hq2 ho6 HC1 HV1 HQ1
     obtain ⟨m6, hm6⟩ := name_itV (i % 6)
     obtain ⟨m3, hm3⟩ := name_itV (i % 3)
     rw [hm6.out] at HTW
     rw [hm6.out] at hr6
     go_wp2_with fail
     go_loopg [11] (1 + i % 3) (fun k s11 wx => ∃ d : Nat, d ≤ 1 + i % 3 ∧ k = 1 + i % 3 - d ∧ s11 = .int .i64 (d : Nat) ∧ Hid (∃ c, Two G w3 q1 q2 m6 T c c wx ∧ OpI T (wayN m6) c))
     case atStart => exact ⟨0, by omega, by omega, rfl, Lib.hid ⟨_, HTW.out, .inl rfl⟩⟩
     case round =>
      obtain ⟨d, hd, rfl, rfl, hM2⟩ := hrel
      by_cases hdl : d < 1 + i % 3
      ·have e3 : (d : Int) < 1 + (i : Int) % 3 := by omega
       have e4 : IntKind.i64.wrap ((d : Int) + 1) = (d : Int) + 1 := IntWalk.i64_in _ (by omega)
       obtain ⟨c, h2, ho⟩ := hM2.out
       have HT2 := Lib.hid h2
       have HO2 := Lib.hid (op_step ho)
       clear h2 ho hM2
       obtain ⟨r, hr⟩ := name_itV (openA T (wayN m6) c)
       rw [hr.out] at HO2
       go_wp2_with fail
       have hop := open_any HT2.out.c1 (HGG.out _ HT2.out.b).1 (HGG.out _ HT2.out.b).2
       rw [hr.out] at hop
       refine hop.mono ?_
       unfold CurDo
       rintro e x1 ⟨rfl, hc, ht⟩
       have HT3 := Lib.hid (HT2.out.do1 hc ht)
       clear hc ht hop
       go_wp2_with fail
       have hop := open_any HT3.out.c2 (HGG.out _ HT3.out.b).1 (HGG.out _ HT3.out.b).2
       rw [hr.out] at hop
       refine hop.mono ?_
       unfold CurDo
       rintro e x2 ⟨rfl, hc, ht⟩
       have HT4 := Lib.hid (HT3.out.do2 hc ht)
       clear hc ht hop
       have hne : (r.2 != r.2) = false := bne_self_eq_false _
       go_wp2_with fail
       go_roundg (1 + i % 3 - (d + 1))
       case rel => exact ⟨d + 1, by omega, rfl, by go_num, Lib.hid ⟨r.1, HT4.out, HO2.out⟩⟩
       case measure => omega
      ·have e3 : ¬ (d : Int) < 1 + (i : Int) % 3 := by omega
       obtain ⟨c, h2, ho⟩ := hM2.out
       have HT2 := Lib.hid h2
       have HO2 := Lib.hid ho
       clear h2 ho hM2
       obtain ⟨o, hoD⟩ : ∃ o, D[i]? = some o := ⟨D[i]'(by rw [← HDL.out]; exact hlt.1), List.getElem?_eq_getElem _⟩
       obtain ⟨ad, sv, rfl, hfa, _, hcv, _⟩ := OpR.cells (HDL3.out w3 (Below.refl _ _)) hoD
       obtain ⟨cv, hCV⟩ := name6 o.2 sv
       rw [hCV.out] at hcv
       have HFO := Lib.hid (HFD.out o (List.mem_of_getElem? hoD))
       have HCV := Lib.hid (fun (W : World) (hb : Below w3.heap.size w3 W) (j : Nat) (hj : j < cv.size) => (hb.cell (p := ((ad.add (i * 7)).add 1).add j) (by rw [add_blk, add_blk, add_blk]; exact Nat.lt_of_lt_of_le (HF.out _ hfa) HB3.out.size)).trans (hcv j hj))
       have ICV := Lib.hid (show (Tryz.prog.info? 34).map (·.size) = some cv.size from infoV6.trans (congrArg some hCV.size.symm))
       clear hfa hcv hoD
       obtain ⟨k12, hk12⟩ := name_itV (keyA c)
       obtain ⟨s12, hs12⟩ := name_itV k12.isSome
       go_wp2_with fail
       have hky := keyC_any HT2.out.c1
       rw [hk12.out] at hky
       refine hky.mono ?_
       unfold KeyRes
       rintro e x12 ⟨A12, cp12, rfl, hb⟩
       obtain ⟨u12, hu12⟩ := name6 (k12.getD valZ) (.slice A12 0 cp12)
       rw [hu12.out, hs12.out]
       have HA12 := Lib.hid (HT2.out.on hb)
       have HXB12 := Lib.hid hb
       clear hky hb
       obtain ⟨z12, hz12⟩ := name_itV x12.heap.size
       obtain ⟨b12, hv12⟩ := name_itV (x12.alloc (.cells #[.int .i64 0, .bool false, .int .i64 0, .string ⟨#[]⟩, .string ⟨#[]⟩, .slice none 0 0] 34))
       have HV12 := Lib.hid (show b12.heap[z12]? = some (.cells #[.int .i64 0, .bool false, .int .i64 0, .string ⟨#[]⟩, .string ⟨#[]⟩, .slice none 0 0] 34 (0, 0)) from by rw [← hv12.out, ← hz12.out]; exact heap_alloc_new x12 _)
       have SL12 := Lib.hid (show u12.size = (#[.int .i64 0, .bool false, .int .i64 0, .string ⟨#[]⟩, .string ⟨#[]⟩, .slice none 0 0] : Array Value).size from by rw [hu12.size]; rfl)
       have IL12 := Lib.hid (show (Tryz.prog.info? 34).map (·.size) = some u12.size from infoV6.trans (congrArg some hu12.size.symm))
       have OL12 := Lib.hid (show u12.all (·.oneCell') = true from by rw [← hu12.out]; kernel_rfl)
       go_upto_region 20 with ((with_reducible refine at_st 12 ?_); rw [hv12.out, hz12.out]; refine st_row rfl 34 _ _ rfl z12 (#[.int .i64 0, .bool false, .int .i64 0, .string ⟨#[]⟩, .string ⟨#[]⟩, .slice none 0 0]) u12 34 rfl rfl HV12.out SL12.out IL12.out OL12.out ?_; intro y12 hw12 ht12)
       have HW12 := Lib.hid hw12
       have HB12 := Lib.hid (show Below x12.heap.size x12 y12 from box_below (by rw [hv12.out, hz12.out]; exact ht12))
       have HT12 := Lib.hid (HA12.out.on HB12.out)
       have HZ12 := Lib.hid (show q1 ≠ z12 ∧ q2 ≠ z12 from ⟨fun e => by have := HA12.out.c1.lt; have h2 : x12.heap.size = z12 := hz12.out; omega, fun e => by have := HA12.out.c2.lt; have h2 : x12.heap.size = z12 := hz12.out; omega⟩)
       have HYB12 := Lib.hid (HXB12.out.trans (HB12.out.mono HXB12.out.size))
       clear hw12 ht12 hv12 HV12 SL12 OL12
       have hz3 : y12.cell? ⟨z, 3, none⟩ = some (.slice (some ad) nD c3) := Lib.cell_of_heap (HZ3.out y12 HT12.out.b) 3
       have e0 : (0 : Int) ≤ i := by omega
       go_wp2_with ((with_reducible refine at_dst (some 108) ?_); refine ld_armA rfl 34 _ rfl rfl cv _ (HCV.out _ HT12.out.b) Tryz.underlying34 rfl ICV.out ?_)
       have hsk := seek_any HT12.out.c1 o.2 sv HFO.out (HGG.out _ HT12.out.b).1 (HGG.out _ HT12.out.b).2
       rw [hCV.out] at hsk
       obtain ⟨rs, hrs⟩ := name_itV (toA T (wayN m6) false o.2 c)
       rw [hrs.out] at hsk
       obtain ⟨ks, hks⟩ := name_itV (keyA rs.1)
       obtain ⟨ss, hss⟩ := name_itV ks.isSome
       have hfo : rs.2 = ss := by rw [← hss.out, ← hks.out, ← hrs.out]; exact op_found HO2.out
       refine hsk.mono ?_
       unfold CurDo
       rintro e x20 ⟨rfl, hc, ht⟩
       rw [hfo]
       have HT20 := Lib.hid (HT12.out.do1 hc ht)
       have HW20 := Lib.hid (ht.heap HW12.out (fun e => HZ12.out.1 (Eq.symm e)))
       clear hc ht hsk hz3 hfo
       go_wp2_with fail
       have hky := keyC_any HT20.out.c1
       rw [hks.out] at hky
       refine hky.mono ?_
       unfold KeyRes
       rintro e x15 ⟨A15, cp15, rfl, hb⟩
       obtain ⟨u15, hu15⟩ := name6 (ks.getD valZ) (.slice A15 0 cp15)
       rw [hu15.out, hss.out]
       have HA15 := Lib.hid (HT20.out.on hb)
       have HXB15 := Lib.hid hb
       clear hky hb
       obtain ⟨z15, hz15⟩ := name_itV x15.heap.size
       obtain ⟨b15, hv15⟩ := name_itV (x15.alloc (.cells #[.int .i64 0, .bool false, .int .i64 0, .string ⟨#[]⟩, .string ⟨#[]⟩, .slice none 0 0] 34))
       have HV15 := Lib.hid (show b15.heap[z15]? = some (.cells #[.int .i64 0, .bool false, .int .i64 0, .string ⟨#[]⟩, .string ⟨#[]⟩, .slice none 0 0] 34 (0, 0)) from by rw [← hv15.out, ← hz15.out]; exact heap_alloc_new x15 _)
       have SL15 := Lib.hid (show u15.size = (#[.int .i64 0, .bool false, .int .i64 0, .string ⟨#[]⟩, .string ⟨#[]⟩, .slice none 0 0] : Array Value).size from by rw [hu15.size]; rfl)
       have IL15 := Lib.hid (show (Tryz.prog.info? 34).map (·.size) = some u15.size from infoV6.trans (congrArg some hu15.size.symm))
       have OL15 := Lib.hid (show u15.all (·.oneCell') = true from by rw [← hu15.out]; kernel_rfl)
       go_upto_region 22 with ((with_reducible refine at_st 15 ?_); rw [hv15.out, hz15.out]; refine st_row rfl 34 _ _ rfl z15 (#[.int .i64 0, .bool false, .int .i64 0, .string ⟨#[]⟩, .string ⟨#[]⟩, .slice none 0 0]) u15 34 rfl rfl HV15.out SL15.out IL15.out OL15.out ?_; intro y15 hw15 ht15)
       have HW15 := Lib.hid hw15
       have HB15 := Lib.hid (show Below x15.heap.size x15 y15 from box_below (by rw [hv15.out, hz15.out]; exact ht15))
       have HT15 := Lib.hid (HA15.out.on HB15.out)
       have HZ15 := Lib.hid (show q1 ≠ z15 ∧ q2 ≠ z15 from ⟨fun e => by have := HA15.out.c1.lt; have h2 : x15.heap.size = z15 := hz15.out; omega, fun e => by have := HA15.out.c2.lt; have h2 : x15.heap.size = z15 := hz15.out; omega⟩)
       have HYB15 := Lib.hid (HXB15.out.trans (HB15.out.mono HXB15.out.size))
       clear hw15 ht15 hv15 HV15 SL15 OL15
       have HW25 := Lib.hid ((HYB15.out.block z12 (blk_lt HW20.out)).trans HW20.out)
       have HKV := Lib.hid (show KeyV (ks.getD valZ) from by
        cases hk : ks with
        | none => exact keyV_Z
        | some x =>
         obtain ⟨pre, hp⟩ := to_mem (v := o.2) (x := x) HO2.out (by rw [hrs.out, hks.out, hk])
         exact keyV_of (HS3.out.scal) (HS3.out.fit) hp)
       have HKO := Lib.hid (show KeyV (k12.getD valZ) from by
        cases hk : k12 with
        | none => exact keyV_Z
        | some x =>
         obtain ⟨pre, hp⟩ := op_mem (x := x) HO2.out (by rw [hk12.out, hk])
         exact keyV_of (HS3.out.scal) (HS3.out.fit) hp)
       have HNB := Lib.hid (show ss = true → ¬ ordV (ks.getD valZ) (k12.getD valZ) < 0 from fun he => by
        cases hk : ks with
        | none => rw [← hss.out, hk] at he; cases he
        | some x =>
         cases hk2 : k12 with
         | none =>
          have := op_none (v := o.2) HO2.out (by rw [hk12.out, hk2])
          rw [hrs.out] at this
          have h3 := hks.out
          rw [this] at h3
          rw [hk12.out, hk2, hk] at h3
          cases h3
         | some y => exact op_not_before (v := o.2) HO2.out (by rw [hk12.out, hk2]; rfl) (by rw [hrs.out, hks.out, hk]; rfl))
       go_loopg [] (cntA T (wayN m6) c) (fun k wx => ∃ d, k = cntA T (wayN m6) d ∧ Hid (Two G w3 q1 q2 m6 T rs.1 d wx ∧ (s12 = true → SkI T (wayN m6) o.2 c d) ∧ (s12 = false → d = c) ∧ wx.heap[z12]? = some (.cells u12 34 (0, 0)) ∧ wx.heap[z15]? = some (.cells u15 34 (0, 0))))
       case atStart =>
        refine ⟨c, rfl, Lib.hid ⟨HT15.out, fun he => op_start HO2.out ?_, fun _ => rfl, HW25.out, HW15.out⟩⟩
        intro h
        rw [hk12.out] at h
        rw [← hs12.out, h] at he
        cases he
       case round =>
        obtain ⟨dd, rfl, hM4⟩ := hrel
        have HT4 := Lib.hid hM4.out.1
        have HG12 := Lib.hid hM4.out.2.2.2.1
        have HG15 := Lib.hid hM4.out.2.2.2.2
        cases s12 with
        | false =>
         have HKD := Lib.hid (show keyA dd = ks from by
          have h1 : dd = c := hM4.out.2.2.1 rfl
          have h2 : k12 = none := by have := hs12.out; cases hk : k12 with
           | none => rfl
           | some x => rw [hk] at this; cases this
          have h3 := op_none (v := o.2) HO2.out (by rw [hk12.out, h2])
          rw [hrs.out] at h3
          have h4 := hks.out
          rw [h3] at h4
          rw [h1]
          exact h4)
         go_wp2_with fail
         have hky := keyC_any HT4.out.c2
         rw [HKD.out] at hky
         refine hky.mono ?_
         unfold KeyRes
         rintro e x19 ⟨A19, cp19, rfl, hb⟩
         obtain ⟨u19, hu19⟩ := name6 (ks.getD valZ) (.slice A19 0 cp19)
         rw [hu19.out, hss.out]
         have HA19 := Lib.hid (HT4.out.on hb)
         have HXB19 := Lib.hid hb
         clear hky hb
         obtain ⟨z19, hz19⟩ := name_itV x19.heap.size
         obtain ⟨b19, hv19⟩ := name_itV (x19.alloc (.cells #[.int .i64 0, .bool false, .int .i64 0, .string ⟨#[]⟩, .string ⟨#[]⟩, .slice none 0 0] 34))
         have HV19 := Lib.hid (show b19.heap[z19]? = some (.cells #[.int .i64 0, .bool false, .int .i64 0, .string ⟨#[]⟩, .string ⟨#[]⟩, .slice none 0 0] 34 (0, 0)) from by rw [← hv19.out, ← hz19.out]; exact heap_alloc_new x19 _)
         have SL19 := Lib.hid (show u19.size = (#[.int .i64 0, .bool false, .int .i64 0, .string ⟨#[]⟩, .string ⟨#[]⟩, .slice none 0 0] : Array Value).size from by rw [hu19.size]; rfl)
         have IL19 := Lib.hid (show (Tryz.prog.info? 34).map (·.size) = some u19.size from infoV6.trans (congrArg some hu19.size.symm))
         have OL19 := Lib.hid (show u19.all (·.oneCell') = true from by rw [← hu19.out]; kernel_rfl)
         go_upto_region 27 with ((with_reducible refine at_st 19 ?_); rw [hv19.out, hz19.out]; refine st_row rfl 34 _ _ rfl z19 (#[.int .i64 0, .bool false, .int .i64 0, .string ⟨#[]⟩, .string ⟨#[]⟩, .slice none 0 0]) u19 34 rfl rfl HV19.out SL19.out IL19.out OL19.out ?_; intro y19 hw19 ht19)
         have HW19 := Lib.hid hw19
         have HB19 := Lib.hid (show Below x19.heap.size x19 y19 from box_below (by rw [hv19.out, hz19.out]; exact ht19))
         have HT19 := Lib.hid (HA19.out.on HB19.out)
         have HZ19 := Lib.hid (show q1 ≠ z19 ∧ q2 ≠ z19 from ⟨fun e => by have := HA19.out.c1.lt; have h2 : x19.heap.size = z19 := hz19.out; omega, fun e => by have := HA19.out.c2.lt; have h2 : x19.heap.size = z19 := hz19.out; omega⟩)
         have HYB19 := Lib.hid (HXB19.out.trans (HB19.out.mono HXB19.out.size))
         clear hw19 ht19 hv19 HV19 SL19 OL19
         have HE12 := Lib.hid ((HYB19.out.block z12 (blk_lt HG12.out)).trans HG12.out)
         have HE15 := Lib.hid ((HYB19.out.block z15 (blk_lt HG15.out)).trans HG15.out)
         have w9 : IntKind.i64.wrap ((i : Int) + 1) = (i : Int) + 1 := IntWalk.i64_in _ (by omega)
         have hsm := sameK_any HKV.out HKV.out A15 A19 cp15 cp19 y19
         rw [sameB_refl, hu15.out, hu19.out] at hsm
         have hbb : (ss != ss) = false := bne_self_eq_false _
         go_wp2_with (first
          | ((with_reducible refine at_dst (some 150) ?_); refine ld_armG (by rfl) 34 _ rfl rfl u15 _ (row_at HE15.out) Tryz.underlying34 rfl IL15.out ?_)
          | ((with_reducible refine at_dst (some 151) ?_); refine ld_armG (by rfl) 34 _ rfl rfl u19 _ (row_at HW19.out) Tryz.underlying34 rfl IL19.out ?_))
         refine hsm.mono ?_
         unfold ToldB
         rintro e x27 ⟨rfl, hb⟩
         have HX27 := Lib.hid hb
         have HT27 := Lib.hid (HT19.out.on hb)
         clear hb hsm hbb
         cases ss with
         | false =>
          go_wp2_with fail
          go_roundw
          case rel => exact ⟨i + 1, by omega, by omega, by go_num, Lib.hid HT27.out.b⟩
          case measure => simp [intOf]; omega
         | true =>
          obtain ⟨m, hm⟩ := name_itV (ordV (ks.getD valZ) (k12.getD valZ))
          have hm0 : ¬ m < 0 := by have h := HNB.out rfl; rw [hm.out] at h; omega
          have hor := refOrder_any (ks.getD valZ) (k12.getD valZ) (.slice A15 0 cp15) (.slice A12 0 cp12) x27 HKV.out.k5 HKV.out.fit HKO.out.fit
          unfold OrdIs at hor
          rw [hu15.out, hu12.out, hm.out] at hor
          have HF12 := Lib.hid ((HX27.out.block z12 (blk_lt HE12.out)).trans HE12.out)
          have HF15 := Lib.hid ((HX27.out.block z15 (blk_lt HE15.out)).trans HE15.out)
          go_wp2_with (first
           | ((with_reducible refine at_dst (some 158) ?_); refine ld_armG (by rfl) 34 _ rfl rfl u15 _ (row_at HF15.out) Tryz.underlying34 rfl IL15.out ?_)
           | ((with_reducible refine at_dst (some 159) ?_); refine ld_armG (by rfl) 34 _ rfl rfl u12 _ (row_at HF12.out) Tryz.underlying34 rfl IL12.out ?_))
          refine hor.mono ?_
          rintro e x28 ⟨rfl, hb⟩
          have HT28 := Lib.hid (HT27.out.on hb)
          clear hb hor
          go_wp2_with fail
          go_roundw
          case rel => exact ⟨i + 1, by omega, by omega, by go_num, Lib.hid HT28.out.b⟩
          case measure => simp [intOf]; omega
        | true =>
         have HSK := Lib.hid (hM4.out.2.1 rfl)
         clear hM4
         obtain ⟨kd, hkd⟩ := name_itV (keyA dd)
         obtain ⟨sd, hsd⟩ := name_itV kd.isSome
         go_wp2_with fail
         have hky := keyC_any HT4.out.c2
         rw [hkd.out] at hky
         refine hky.mono ?_
         unfold KeyRes
         rintro e x17 ⟨A17, cp17, rfl, hb⟩
         obtain ⟨u17, hu17⟩ := name6 (kd.getD valZ) (.slice A17 0 cp17)
         rw [hu17.out, hsd.out]
         have HA17 := Lib.hid (HT4.out.on hb)
         have HXB17 := Lib.hid hb
         clear hky hb
         obtain ⟨z17, hz17⟩ := name_itV x17.heap.size
         obtain ⟨b17, hv17⟩ := name_itV (x17.alloc (.cells #[.int .i64 0, .bool false, .int .i64 0, .string ⟨#[]⟩, .string ⟨#[]⟩, .slice none 0 0] 34))
         have HV17 := Lib.hid (show b17.heap[z17]? = some (.cells #[.int .i64 0, .bool false, .int .i64 0, .string ⟨#[]⟩, .string ⟨#[]⟩, .slice none 0 0] 34 (0, 0)) from by rw [← hv17.out, ← hz17.out]; exact heap_alloc_new x17 _)
         have SL17 := Lib.hid (show u17.size = (#[.int .i64 0, .bool false, .int .i64 0, .string ⟨#[]⟩, .string ⟨#[]⟩, .slice none 0 0] : Array Value).size from by rw [hu17.size]; rfl)
         have IL17 := Lib.hid (show (Tryz.prog.info? 34).map (·.size) = some u17.size from infoV6.trans (congrArg some hu17.size.symm))
         have OL17 := Lib.hid (show u17.all (·.oneCell') = true from by rw [← hu17.out]; kernel_rfl)
         go_upto_region 24 with ((with_reducible refine at_st 17 ?_); rw [hv17.out, hz17.out]; refine st_row rfl 34 _ _ rfl z17 (#[.int .i64 0, .bool false, .int .i64 0, .string ⟨#[]⟩, .string ⟨#[]⟩, .slice none 0 0]) u17 34 rfl rfl HV17.out SL17.out IL17.out OL17.out ?_; intro y17 hw17 ht17)
         have HW17 := Lib.hid hw17
         have HB17 := Lib.hid (show Below x17.heap.size x17 y17 from box_below (by rw [hv17.out, hz17.out]; exact ht17))
         have HT17 := Lib.hid (HA17.out.on HB17.out)
         have HZ17 := Lib.hid (show q1 ≠ z17 ∧ q2 ≠ z17 from ⟨fun e => by have := HA17.out.c1.lt; have h2 : x17.heap.size = z17 := hz17.out; omega, fun e => by have := HA17.out.c2.lt; have h2 : x17.heap.size = z17 := hz17.out; omega⟩)
         have HYB17 := Lib.hid (HXB17.out.trans (HB17.out.mono HXB17.out.size))
         clear hw17 ht17 hv17 HV17 SL17 OL17
         have HH12 := Lib.hid ((HYB17.out.block z12 (blk_lt HG12.out)).trans HG12.out)
         have HH15 := Lib.hid ((HYB17.out.block z15 (blk_lt HG15.out)).trans HG15.out)
         cases sd with
         | false =>
          have HKD := Lib.hid (show keyA dd = ks from by
           have h2 : kd = none := by have := hsd.out; cases hk : kd with
            | none => rfl
            | some x => rw [hk] at this; cases this
           rw [← hks.out, ← hrs.out]
           exact sk_end HS3.out.scal HSK.out (.inl (by rw [hkd.out, h2])))
          refine wp_region_held_drew (S := fun _ => True) (by kernel_rfl) trivial (fun hHeld => ?_)
          refine Boxed.out ?_
          refine take_want 0 121 (.bool false) (by kernel_rfl) (by rfl) (by kernel_rfl) (by kernel_rfl) (by kernel_rfl) (fun _ _ _ h => h) hHeld (fun w hSw => ?_) (fun hHeld => ?_)
          ·unfold runsTo
           go_simp
          try simp only [Act.put, List.setIfInBounds_toArray, List.set_cons_zero, List.set_cons_succ]
          refine take_want 1 122 (.bool true) (by kernel_rfl) (by rfl) (by kernel_rfl) (by kernel_rfl) (by kernel_rfl) (fun _ _ _ h => h) hHeld (fun w hSw => ?_) (fun hHeld => ?_)
          ·unfold runsTo
           go_simp
          try simp only [Act.put, List.setIfInBounds_toArray, List.set_cons_zero, List.set_cons_succ]
          refine take_want 2 123 (.bool true) (by kernel_rfl) (by rfl) (by kernel_rfl) (by kernel_rfl) (by kernel_rfl) (fun _ _ _ h => h) hHeld (fun w hSw => ?_) (fun hHeld => ?_)
          ·unfold runsTo
           go_simp
          try simp only [Act.put, List.setIfInBounds_toArray, List.set_cons_zero, List.set_cons_succ]
          refine take_skip 3 124 (by kernel_rfl) (by rfl) (by kernel_rfl) (by kernel_rfl) (by kernel_rfl) (fun _ _ _ h => h) hHeld (fun hHeld => ?_)
          try simp only [Act.put, List.setIfInBounds_toArray, List.set_cons_zero, List.set_cons_succ]
          refine take_skip 4 125 (by kernel_rfl) (by rfl) (by kernel_rfl) (by kernel_rfl) (by kernel_rfl) (fun _ _ _ h => h) hHeld (fun hHeld => ?_)
          try simp only [Act.put, List.setIfInBounds_toArray, List.set_cons_zero, List.set_cons_succ]
          refine take_skip 5 126 (by kernel_rfl) (by rfl) (by kernel_rfl) (by kernel_rfl) (by kernel_rfl) (fun _ _ _ h => h) hHeld (fun hHeld => ?_)
          try simp only [Act.put, List.setIfInBounds_toArray, List.set_cons_zero, List.set_cons_succ]
          refine take_skip 6 127 (by kernel_rfl) (by rfl) (by kernel_rfl) (by kernel_rfl) (by kernel_rfl) (fun _ _ _ h => h) hHeld (fun hHeld => ?_)
          try simp only [Act.put, List.setIfInBounds_toArray, List.set_cons_zero, List.set_cons_succ]
          refine take_skip 7 128 (by kernel_rfl) (by rfl) (by kernel_rfl) (by kernel_rfl) (by kernel_rfl) (fun _ _ _ h => h) hHeld (fun hHeld => ?_)
          try simp only [Act.put, List.setIfInBounds_toArray, List.set_cons_zero, List.set_cons_succ]
          refine take_skip 8 129 (by kernel_rfl) (by rfl) (by kernel_rfl) (by kernel_rfl) (by kernel_rfl) (fun _ _ _ h => h) hHeld (fun hHeld => ?_)
          try simp only [Act.put, List.setIfInBounds_toArray, List.set_cons_zero, List.set_cons_succ]
          refine take_skip 9 130 (by kernel_rfl) (by rfl) (by kernel_rfl) (by kernel_rfl) (by kernel_rfl) (fun _ _ _ h => h) hHeld (fun hHeld => ?_)
          try simp only [Act.put, List.setIfInBounds_toArray, List.set_cons_zero, List.set_cons_succ]
          refine take_skip 10 131 (by kernel_rfl) (by rfl) (by kernel_rfl) (by kernel_rfl) (by kernel_rfl) (fun _ _ _ h => h) hHeld (fun hHeld => ?_)
          try simp only [Act.put, List.setIfInBounds_toArray, List.set_cons_zero, List.set_cons_succ]
          refine take_skip 11 132 (by kernel_rfl) (by rfl) (by kernel_rfl) (by kernel_rfl) (by kernel_rfl) (fun _ _ _ h => h) hHeld (fun hHeld => ?_)
          try simp only [Act.put, List.setIfInBounds_toArray, List.set_cons_zero, List.set_cons_succ]
          refine take_want 12 133 (.bool true) (by kernel_rfl) (by rfl) (by kernel_rfl) (by kernel_rfl) (by kernel_rfl) (fun _ _ _ h => h) hHeld (fun w hSw => ?_) (fun hHeld => ?_)
          ·unfold runsTo
           go_simp
          try simp only [Act.put]
          refine ⟨wpAnyH_done (by kernel_rfl) ?_ _⟩
          clear hHeld
          have HTD := Lib.hid (HT17.out.on (Below.refl _ _).drew)
          have HD12 := Lib.hid (show y17.drew.heap[z12]? = _ from HH12.out)
          have HD15 := Lib.hid (show y17.drew.heap[z15]? = _ from HH15.out)
          go_wp2_with fail
          have hky := keyC_any HTD.out.c2
          rw [HKD.out] at hky
          refine hky.mono ?_
          unfold KeyRes
          rintro e x19 ⟨A19, cp19, rfl, hb⟩
          obtain ⟨u19, hu19⟩ := name6 (ks.getD valZ) (.slice A19 0 cp19)
          rw [hu19.out, hss.out]
          have HA19 := Lib.hid (HTD.out.on hb)
          have HXB19 := Lib.hid hb
          clear hky hb
          obtain ⟨z19, hz19⟩ := name_itV x19.heap.size
          obtain ⟨b19, hv19⟩ := name_itV (x19.alloc (.cells #[.int .i64 0, .bool false, .int .i64 0, .string ⟨#[]⟩, .string ⟨#[]⟩, .slice none 0 0] 34))
          have HV19 := Lib.hid (show b19.heap[z19]? = some (.cells #[.int .i64 0, .bool false, .int .i64 0, .string ⟨#[]⟩, .string ⟨#[]⟩, .slice none 0 0] 34 (0, 0)) from by rw [← hv19.out, ← hz19.out]; exact heap_alloc_new x19 _)
          have SL19 := Lib.hid (show u19.size = (#[.int .i64 0, .bool false, .int .i64 0, .string ⟨#[]⟩, .string ⟨#[]⟩, .slice none 0 0] : Array Value).size from by rw [hu19.size]; rfl)
          have IL19 := Lib.hid (show (Tryz.prog.info? 34).map (·.size) = some u19.size from infoV6.trans (congrArg some hu19.size.symm))
          have OL19 := Lib.hid (show u19.all (·.oneCell') = true from by rw [← hu19.out]; kernel_rfl)
          go_upto_region 27 with ((with_reducible refine at_st 19 ?_); rw [hv19.out, hz19.out]; refine st_row rfl 34 _ _ rfl z19 (#[.int .i64 0, .bool false, .int .i64 0, .string ⟨#[]⟩, .string ⟨#[]⟩, .slice none 0 0]) u19 34 rfl rfl HV19.out SL19.out IL19.out OL19.out ?_; intro y19 hw19 ht19)
          have HW19 := Lib.hid hw19
          have HB19 := Lib.hid (show Below x19.heap.size x19 y19 from box_below (by rw [hv19.out, hz19.out]; exact ht19))
          have HT19 := Lib.hid (HA19.out.on HB19.out)
          have HZ19 := Lib.hid (show q1 ≠ z19 ∧ q2 ≠ z19 from ⟨fun e => by have := HA19.out.c1.lt; have h2 : x19.heap.size = z19 := hz19.out; omega, fun e => by have := HA19.out.c2.lt; have h2 : x19.heap.size = z19 := hz19.out; omega⟩)
          have HYB19 := Lib.hid (HXB19.out.trans (HB19.out.mono HXB19.out.size))
          clear hw19 ht19 hv19 HV19 SL19 OL19
          have HE12 := Lib.hid ((HYB19.out.block z12 (blk_lt HD12.out)).trans HD12.out)
          have HE15 := Lib.hid ((HYB19.out.block z15 (blk_lt HD15.out)).trans HD15.out)
          have w9 : IntKind.i64.wrap ((i : Int) + 1) = (i : Int) + 1 := IntWalk.i64_in _ (by omega)
          have hsm := sameK_any HKV.out HKV.out A15 A19 cp15 cp19 y19
          rw [sameB_refl, hu15.out, hu19.out] at hsm
          have hbb : (ss != ss) = false := bne_self_eq_false _
          go_wp2_with (first
           | ((with_reducible refine at_dst (some 150) ?_); refine ld_armG (by rfl) 34 _ rfl rfl u15 _ (row_at HE15.out) Tryz.underlying34 rfl IL15.out ?_)
           | ((with_reducible refine at_dst (some 151) ?_); refine ld_armG (by rfl) 34 _ rfl rfl u19 _ (row_at HW19.out) Tryz.underlying34 rfl IL19.out ?_))
          refine hsm.mono ?_
          unfold ToldB
          rintro e x27 ⟨rfl, hb⟩
          have HX27 := Lib.hid hb
          have HT27 := Lib.hid (HT19.out.on hb)
          clear hb hsm hbb
          cases ss with
          | false =>
           go_wp2_with fail
           go_roundw
           case rel => exact ⟨i + 1, by omega, by omega, by go_num, Lib.hid HT27.out.b⟩
           case measure => simp [intOf]; omega
          | true =>
           obtain ⟨m, hm⟩ := name_itV (ordV (ks.getD valZ) (k12.getD valZ))
           have hm0 : ¬ m < 0 := by have h := HNB.out rfl; rw [hm.out] at h; omega
           have hor := refOrder_any (ks.getD valZ) (k12.getD valZ) (.slice A15 0 cp15) (.slice A12 0 cp12) x27 HKV.out.k5 HKV.out.fit HKO.out.fit
           unfold OrdIs at hor
           rw [hu15.out, hu12.out, hm.out] at hor
           have HF12 := Lib.hid ((HX27.out.block z12 (blk_lt HE12.out)).trans HE12.out)
           have HF15 := Lib.hid ((HX27.out.block z15 (blk_lt HE15.out)).trans HE15.out)
           go_wp2_with (first
            | ((with_reducible refine at_dst (some 158) ?_); refine ld_armG (by rfl) 34 _ rfl rfl u15 _ (row_at HF15.out) Tryz.underlying34 rfl IL15.out ?_)
            | ((with_reducible refine at_dst (some 159) ?_); refine ld_armG (by rfl) 34 _ rfl rfl u12 _ (row_at HF12.out) Tryz.underlying34 rfl IL12.out ?_))
           refine hor.mono ?_
           rintro e x28 ⟨rfl, hb⟩
           have HT28 := Lib.hid (HT27.out.on hb)
           clear hb hor
           go_wp2_with fail
           go_roundw
           case rel => exact ⟨i + 1, by omega, by omega, by go_num, Lib.hid HT28.out.b⟩
           case measure => simp [intOf]; omega
         | true =>
          obtain ⟨xk, hxk⟩ : ∃ xk, kd = some xk := by
           have := hsd.out
           cases hk : kd with
           | none => rw [hk] at this; cases this
           | some x => exact ⟨x, rfl⟩
          obtain ⟨m, hm⟩ := name_itV (ordV xk o.2)
          have HKX := Lib.hid (show keyA dd = some xk from by rw [hkd.out, hxk])
          have HKW := Lib.hid (show KeyV xk from by
           obtain ⟨pre, hp⟩ := key_mem HSK.out HKX.out
           exact keyV_of HS3.out.scal HS3.out.fit hp)
          have hor := refOrder_any xk o.2 (.slice A17 0 cp17) sv y17.drew HKW.out.k5 HKW.out.fit HFO.out
          unfold OrdIs at hor
          have hux := hu17.out
          rw [hxk] at hux
          rw [show cellsV xk (.slice A17 0 cp17) = u17 from hux, hCV.out, hm.out] at hor
          clear hux
          have HSW := Lib.hid (fun (W : World) (hb : Below y17.heap.size y17 W) => (show W.heap[z17]? = some (.cells u17 34 (0, 0)) ∧ W.cell? ⟨z, 3, none⟩ = some (.slice (some ad) nD c3) ∧ ∀ j, j < cv.size → W.cell? (((ad.add (i * 7)).add 1).add j) = cv[j]? from ⟨(hb.block z17 (blk_lt HW17.out)).trans HW17.out, Lib.cell_of_heap (HZ3.out W (HT17.out.on hb).b) 3, HCV.out W (HT17.out.on hb).b⟩))
          have e0 : (0 : Int) ≤ i := by omega
          have e1 : (i : Int) < nD := by omega
          refine wp_region_held_drew (S := fun W => W.heap[z17]? = some (.cells u17 34 (0, 0)) ∧ W.cell? ⟨z, 3, none⟩ = some (.slice (some ad) nD c3) ∧ ∀ j, j < cv.size → W.cell? (((ad.add (i * 7)).add 1).add j) = cv[j]?) (by kernel_rfl) (HSW.out _ (Below.refl _ _).drew) (fun hHeld => ?_)
          refine Boxed.out ?_
          refine take_want 0 121 (.bool true) (by kernel_rfl) (by rfl) (by kernel_rfl) (by kernel_rfl) (by kernel_rfl) (fun _ _ _ h => h) hHeld (fun w hSw => ?_) (fun hHeld => ?_)
          ·unfold runsTo
           go_simp
          try simp only [Act.put, List.setIfInBounds_toArray, List.set_cons_zero, List.set_cons_succ]
          refine take_want 1 122 (.bool false) (by kernel_rfl) (by rfl) (by kernel_rfl) (by kernel_rfl) (by kernel_rfl) (fun _ _ _ h => h) hHeld (fun w hSw => ?_) (fun hHeld => ?_)
          ·unfold runsTo
           go_simp
          try simp only [Act.put, List.setIfInBounds_toArray, List.set_cons_zero, List.set_cons_succ]
          refine take_want 2 123 (.bool false) (by kernel_rfl) (by rfl) (by kernel_rfl) (by kernel_rfl) (by kernel_rfl) (fun _ _ _ h => h) hHeld (fun w hSw => ?_) (fun hHeld => ?_)
          ·unfold runsTo
           go_simp
          try simp only [Act.put, List.setIfInBounds_toArray, List.set_cons_zero, List.set_cons_succ]
          refine take_want 3 124 (.agg u17) (by kernel_rfl) (by rfl) (by kernel_rfl) (by kernel_rfl) (by kernel_rfl) (fun _ _ _ h => h) hHeld (fun w hSw => ?_) (fun hHeld => ?_)
          ·exact val_of (ld_run hSw.1 34 _ Tryz.underlying34 rfl IL17.out)
          try simp only [Act.put, List.setIfInBounds_toArray, List.set_cons_zero, List.set_cons_succ]
          refine take_want 4 125 (.pointer (some ⟨z, 3, none⟩)) (by kernel_rfl) (by rfl) (by kernel_rfl) (by kernel_rfl) (by kernel_rfl) (fun _ _ _ h => h) hHeld (fun w hSw => ?_) (fun hHeld => ?_)
          ·unfold runsTo
           go_simp
          try simp only [Act.put, List.setIfInBounds_toArray, List.set_cons_zero, List.set_cons_succ]
          refine take_want 5 126 (.slice (some ad) nD c3) (by kernel_rfl) (by rfl) (by kernel_rfl) (by kernel_rfl) (by kernel_rfl) (fun _ _ _ h => h) hHeld (fun w hSw => ?_) (fun hHeld => ?_)
          ·have p := hSw.2.1
           unfold runsTo
           go_simp
          try simp only [Act.put, List.setIfInBounds_toArray, List.set_cons_zero, List.set_cons_succ]
          refine take_want 6 127 (.int .i64 (i : Nat)) (by kernel_rfl) (by rfl) (by kernel_rfl) (by kernel_rfl) (by kernel_rfl) (fun _ _ _ h => h) hHeld (fun w hSw => ?_) (fun hHeld => ?_)
          ·unfold runsTo
           go_simp
          try simp only [Act.put, List.setIfInBounds_toArray, List.set_cons_zero, List.set_cons_succ]
          refine take_want 7 128 (.pointer (some (ad.add (i * 7)))) (by kernel_rfl) (by rfl) (by kernel_rfl) (by kernel_rfl) (by kernel_rfl) (fun _ _ _ h => h) hHeld (fun w hSw => ?_) (fun hHeld => ?_)
          ·unfold runsTo
           go_simp
          try simp only [Act.put, List.setIfInBounds_toArray, List.set_cons_zero, List.set_cons_succ]
          refine take_want 8 129 (.pointer (some ((ad.add (i * 7)).add 1))) (by kernel_rfl) (by rfl) (by kernel_rfl) (by kernel_rfl) (by kernel_rfl) (fun _ _ _ h => h) hHeld (fun w hSw => ?_) (fun hHeld => ?_)
          ·unfold runsTo
           go_simp
          try simp only [Act.put, List.setIfInBounds_toArray, List.set_cons_zero, List.set_cons_succ]
          refine take_want 9 130 (.agg cv) (by kernel_rfl) (by rfl) (by kernel_rfl) (by kernel_rfl) (by kernel_rfl) (fun _ _ _ h => h) hHeld (fun w hSw => ?_) (fun hHeld => ?_)
          ·have p := run_loadVar_at w ((ad.add (i * 7)).add 1) 34 cv _ hSw.2.2 Tryz.underlying34 rfl ICV.out
           exact val_of (by simp only [Instr.loadAt, Instr.sureAddr, Sem.run_bind]; exact p)
          try simp only [Act.put, List.setIfInBounds_toArray, List.set_cons_zero, List.set_cons_succ]
          refine take_call 10 (by kernel_rfl) (by rfl) (fun K hK => ?_)
          change Oper.wp _ ⟨some 131, _, _, _, _, _⟩ _ _ _ _
          go_simp
          refine hor.mono ?_
          rintro e x24 ⟨rfl, hb⟩
          have HB24 := Lib.hid (below_of_dr hb)
          clear hb hor
          dsimp only
          refine hK.out _ _ (HSW.out _ HB24.out) (fun hHeld => ?_)
          clear hK K
          try simp only [Act.put, List.setIfInBounds_toArray, List.set_cons_zero, List.set_cons_succ]
          have HTD := Lib.hid (HT17.out.on HB24.out)
          have HD12 := Lib.hid ((HB24.out.block z12 (blk_lt HH12.out)).trans HH12.out)
          have HD15 := Lib.hid ((HB24.out.block z15 (blk_lt HH15.out)).trans HH15.out)
          by_cases hm0 : m < 0
          ·have hm1 : ¬ 0 ≤ m := by omega
           refine take_want 11 132 (.bool false) (by kernel_rfl) (by rfl) (by kernel_rfl) (by kernel_rfl) (by kernel_rfl) (fun _ _ _ h => h) hHeld (fun w hSw => ?_) (fun hHeld => ?_)
           ·unfold runsTo
            go_simp
           try simp only [Act.put, List.setIfInBounds_toArray, List.set_cons_zero, List.set_cons_succ]
           refine take_want 12 133 (.bool false) (by kernel_rfl) (by rfl) (by kernel_rfl) (by kernel_rfl) (by kernel_rfl) (fun _ _ _ h => h) hHeld (fun w hSw => ?_) (fun hHeld => ?_)
           ·unfold runsTo
            go_simp
           try simp only [Act.put]
           refine ⟨wpAnyH_done (by kernel_rfl) ?_ _⟩
           clear hHeld
           have HST := Lib.hid (sk_step HS3.out.scal HSK.out HKX.out (by rw [hm.out]; exact hm0))
           go_wp2_with fail
           have hop := next_any HTD.out.c2 (HGG.out _ HTD.out.b).1 (HGG.out _ HTD.out.b).2
           obtain ⟨rn, hrn⟩ := name_itV (nextA T (wayN m6) dd)
           rw [hrn.out] at hop
           have HST2 := Lib.hid HST.out
           rw [hrn.out] at HST2
           refine hop.mono ?_
           unfold CurDo
           rintro e x25 ⟨rfl, hc, ht⟩
           have HTE := Lib.hid (HTD.out.do2 hc ht)
           have HE12 := Lib.hid (ht.heap HD12.out (fun e => HZ12.out.2 (Eq.symm e)))
           have HE15 := Lib.hid (ht.heap HD15.out (fun e => HZ15.out.2 (Eq.symm e)))
           clear hc ht hop
           go_wp2_with fail
           go_roundg (cntA T (wayN m6) rn.1)
           case rel => exact ⟨rn.1, rfl, Lib.hid ⟨HTE.out, fun _ => HST2.out.1, fun h => (by cases h), HE12.out, HE15.out⟩⟩
           case measure => exact HST2.out.2
          ·have hm1 : 0 ≤ m := by omega
           refine take_want 11 132 (.bool true) (by kernel_rfl) (by rfl) (by kernel_rfl) (by kernel_rfl) (by kernel_rfl) (fun _ _ _ h => h) hHeld (fun w hSw => ?_) (fun hHeld => ?_)
           ·unfold runsTo
            go_simp
           try simp only [Act.put, List.setIfInBounds_toArray, List.set_cons_zero, List.set_cons_succ]
           refine take_want 12 133 (.bool true) (by kernel_rfl) (by rfl) (by kernel_rfl) (by kernel_rfl) (by kernel_rfl) (fun _ _ _ h => h) hHeld (fun w hSw => ?_) (fun hHeld => ?_)
           ·unfold runsTo
            go_simp
           try simp only [Act.put]
           refine ⟨wpAnyH_done (by kernel_rfl) ?_ _⟩
           clear hHeld
           have HKD := Lib.hid (show keyA dd = ks from by
            rw [← hks.out, ← hrs.out]
            exact sk_end HS3.out.scal HSK.out (.inr ⟨xk, HKX.out, by rw [hm.out]; exact hm1⟩))
           go_wp2_with fail
           have hky := keyC_any HTD.out.c2
           rw [HKD.out] at hky
           refine hky.mono ?_
           unfold KeyRes
           rintro e x19 ⟨A19, cp19, rfl, hb⟩
           obtain ⟨u19, hu19⟩ := name6 (ks.getD valZ) (.slice A19 0 cp19)
           rw [hu19.out, hss.out]
           have HA19 := Lib.hid (HTD.out.on hb)
           have HXB19 := Lib.hid hb
           clear hky hb
           obtain ⟨z19, hz19⟩ := name_itV x19.heap.size
           obtain ⟨b19, hv19⟩ := name_itV (x19.alloc (.cells #[.int .i64 0, .bool false, .int .i64 0, .string ⟨#[]⟩, .string ⟨#[]⟩, .slice none 0 0] 34))
           have HV19 := Lib.hid (show b19.heap[z19]? = some (.cells #[.int .i64 0, .bool false, .int .i64 0, .string ⟨#[]⟩, .string ⟨#[]⟩, .slice none 0 0] 34 (0, 0)) from by rw [← hv19.out, ← hz19.out]; exact heap_alloc_new x19 _)
           have SL19 := Lib.hid (show u19.size = (#[.int .i64 0, .bool false, .int .i64 0, .string ⟨#[]⟩, .string ⟨#[]⟩, .slice none 0 0] : Array Value).size from by rw [hu19.size]; rfl)
           have IL19 := Lib.hid (show (Tryz.prog.info? 34).map (·.size) = some u19.size from infoV6.trans (congrArg some hu19.size.symm))
           have OL19 := Lib.hid (show u19.all (·.oneCell') = true from by rw [← hu19.out]; kernel_rfl)
           go_upto_region 27 with ((with_reducible refine at_st 19 ?_); rw [hv19.out, hz19.out]; refine st_row rfl 34 _ _ rfl z19 (#[.int .i64 0, .bool false, .int .i64 0, .string ⟨#[]⟩, .string ⟨#[]⟩, .slice none 0 0]) u19 34 rfl rfl HV19.out SL19.out IL19.out OL19.out ?_; intro y19 hw19 ht19)
           have HW19 := Lib.hid hw19
           have HB19 := Lib.hid (show Below x19.heap.size x19 y19 from box_below (by rw [hv19.out, hz19.out]; exact ht19))
           have HT19 := Lib.hid (HA19.out.on HB19.out)
           have HZ19 := Lib.hid (show q1 ≠ z19 ∧ q2 ≠ z19 from ⟨fun e => by have := HA19.out.c1.lt; have h2 : x19.heap.size = z19 := hz19.out; omega, fun e => by have := HA19.out.c2.lt; have h2 : x19.heap.size = z19 := hz19.out; omega⟩)
           have HYB19 := Lib.hid (HXB19.out.trans (HB19.out.mono HXB19.out.size))
           clear hw19 ht19 hv19 HV19 SL19 OL19
           have HE12 := Lib.hid ((HYB19.out.block z12 (blk_lt HD12.out)).trans HD12.out)
           have HE15 := Lib.hid ((HYB19.out.block z15 (blk_lt HD15.out)).trans HD15.out)
           have w9 : IntKind.i64.wrap ((i : Int) + 1) = (i : Int) + 1 := IntWalk.i64_in _ (by omega)
           have hsm := sameK_any HKV.out HKV.out A15 A19 cp15 cp19 y19
           rw [sameB_refl, hu15.out, hu19.out] at hsm
           have hbb : (ss != ss) = false := bne_self_eq_false _
           go_wp2_with (first
            | ((with_reducible refine at_dst (some 150) ?_); refine ld_armG (by rfl) 34 _ rfl rfl u15 _ (row_at HE15.out) Tryz.underlying34 rfl IL15.out ?_)
            | ((with_reducible refine at_dst (some 151) ?_); refine ld_armG (by rfl) 34 _ rfl rfl u19 _ (row_at HW19.out) Tryz.underlying34 rfl IL19.out ?_))
           refine hsm.mono ?_
           unfold ToldB
           rintro e x27 ⟨rfl, hb⟩
           have HX27 := Lib.hid hb
           have HT27 := Lib.hid (HT19.out.on hb)
           clear hb hsm hbb
           cases ss with
           | false =>
            go_wp2_with fail
            go_roundw
            case rel => exact ⟨i + 1, by omega, by omega, by go_num, Lib.hid HT27.out.b⟩
            case measure => simp [intOf]; omega
           | true =>
            obtain ⟨m, hm⟩ := name_itV (ordV (ks.getD valZ) (k12.getD valZ))
            have hm0 : ¬ m < 0 := by have h := HNB.out rfl; rw [hm.out] at h; omega
            have hor := refOrder_any (ks.getD valZ) (k12.getD valZ) (.slice A15 0 cp15) (.slice A12 0 cp12) x27 HKV.out.k5 HKV.out.fit HKO.out.fit
            unfold OrdIs at hor
            rw [hu15.out, hu12.out, hm.out] at hor
            have HF12 := Lib.hid ((HX27.out.block z12 (blk_lt HE12.out)).trans HE12.out)
            have HF15 := Lib.hid ((HX27.out.block z15 (blk_lt HE15.out)).trans HE15.out)
            go_wp2_with (first
             | ((with_reducible refine at_dst (some 158) ?_); refine ld_armG (by rfl) 34 _ rfl rfl u15 _ (row_at HF15.out) Tryz.underlying34 rfl IL15.out ?_)
             | ((with_reducible refine at_dst (some 159) ?_); refine ld_armG (by rfl) 34 _ rfl rfl u12 _ (row_at HF12.out) Tryz.underlying34 rfl IL12.out ?_))
            refine hor.mono ?_
            rintro e x28 ⟨rfl, hb⟩
            have HT28 := Lib.hid (HT27.out.on hb)
            clear hb hor
            go_wp2_with fail
            go_roundw
            case rel => exact ⟨i + 1, by omega, by omega, by go_num, Lib.hid HT28.out.b⟩
            case measure => simp [intOf]; omega
    ·by_cases hl2 : i < nD
     ·have e1 : (i : Int) < nD := by omega
      have e2 : ¬ (i : Int) < 12 := by omega
      go_wp2_with fail
      refine (HW.out wr (HB3.out.trans (hM.out.mono HB3.out.size))).mono ?_
      rintro e w4 ⟨rfl, hb4⟩
      have HB4 := Lib.hid hb4
      clear hb4
      go_wp2_with fail
      go_ret
      exact ⟨rfl, HB4.out⟩
     ·have e1 : ¬ (i : Int) < nD := by omega
      go_wp2_with fail
      refine (HW.out wr (HB3.out.trans (hM.out.mono HB3.out.size))).mono ?_
      rintro e w4 ⟨rfl, hb4⟩
      have HB4 := Lib.hid hb4
      clear hb4
      go_wp2_with fail
      go_ret
      exact ⟨rfl, HB4.out⟩
end Go.Proofs.YtijciakkfpjjbaaGreatDoor
namespace Go.Proofs.YtijciakkfpjjbaaGreatDoor
open Go Go.ChangeShapes Go.WideShapes Go.ChangeAt Go.RowKit Go.Joins

section
variable {H : Type} {enc : TypeId × Value → H} {P : Program}
theorem post_of_below {f : Func} {s : ChangeSpec} {apart fresh handsOn again : Bool} {W W' : World} {args : Array Value} {v : Value} {ds gs : List (DataW H)} {before pa pv : List MemPlace}
    (hW : DataW.Whole enc P f.params.toList s.vars apart W args.toList ds gs before)
    (hres : ∀ (b : Nat) (sp : Nat → Bool) (hd : Bool), DataW.TrodAll enc P W' b sp hd f.resultTypes.toList (v.resultList f.resultTypes.size) (s.fn H (ds ++ gs)).results [])
    (hargs : ∀ sp : Nat → Bool, (∀ p ∈ before, sp p.block = true) → DataW.TrodAll enc P W' 0 sp true f.params.toList args.toList (s.fn H (ds ++ gs)).args pa)
    (hvars : ∀ sp : Nat → Bool, (∀ p ∈ before, sp p.block = true) → DataW.TrodVars enc P W' sp s.vars (s.fn H (ds ++ gs)).vars pv)
    (hps : before = pa ++ pv) (hb : Below W.heap.size W W')
    (hok : ∀ (j : Nat) (t : TypeId) (r : Value), f.resultTypes[j]? = some t → (v.resultList f.resultTypes.size)[j]? = some r → Value.okWide P W' .any 0 t r) :
    s.post enc P f apart fresh handsOn again W args v W' := by
 have hlt : ∀ p ∈ before, p.block < W.heap.size := fun p hp => hW.lt p hp
 have hold : ∀ p ∈ before, (fun b => decide (b < W.heap.size)) p.block = true := fun p hp => by simpa using hlt p hp
 refine ⟨ds, gs, before, [], pa, pv, hW, hres _ _ _, hargs _ hold, hvars _ hold, World.keptBut_mono (fun p hp => ⟨hp, ?_⟩) (hb.frame (· ∈ before)), fun _ => ?_⟩
 ·rw [hps, List.mem_append] at hp
  exact Or.inr hp
 ·obtain ⟨_, _, _, _, _, hz, hn⟩ := hW
  refine ⟨hok, _, _, ([] ++ pa) ++ pv, ⟨[] ++ pa, pv, trodAll_append (hargs _ (fun _ _ => rfl)) (hres _ _ _), hvars _ (fun _ _ => rfl), rfl, ?_, ?_⟩, ?_⟩
  ·intro b off hp
   have hin : MemPlace.cell b off ∈ before := by rw [hps]; simpa using hp
   rw [hb.frozen (hlt _ hin)]
   exact hz b off hin
  ·intro ha
   have := hn ha
   rw [hps] at this
   simpa using this
  ·intro p hp _
   rw [hps]
   simpa using hp
end

theorem own : ownKnob Tryz.prog.godebug = none := by kernel_rfl
theorem laidOut : laidOutB Tryz.prog = true := by kernel_rfl

set_option maxRecDepth 100000 in
theorem glob_of_shape {W : World} (h : W.ShapedOpen Tryz.prog) : GlobB W :=
 cell_of_shapedOpen_int (P := Tryz.prog) (g := 0) (t := 3) (zero := #[.int .i64 0]) h (of_decide_eq_true (by kernel_rfl)) (by kernel_rfl) rfl (by kernel_rfl) (by kernel_rfl) (by kernel_rfl)

theorem pow10_data {H : Type} : (Rows.laid_internal_strconv_uint64pow10 : DataW H) = Lib.tabData .u64 Lib.pow10Tab := by kernel_rfl
theorem globT_of_laid {W : World} {n1 n2 : String} {d1 d2 : DataW Unit} {rest : List (String × DataW Unit)} (h : laidMet Tryz.prog ((n1, d1) :: (n2, d2) :: ("internal/strconv.uint64pow10", Rows.laid_internal_strconv_uint64pow10) :: rest) W) : GlobT W := by
 have h1 := laidMet.tail (laidMet.tail h)
 rw [pow10_data] at h1
 exact Lib.tabIs_of_head (g := 1) (t := 256) (e := 142) (n := 20) (by kernel_rfl) (by kernel_rfl) (by kernel_rfl) (by kernel_rfl) (by kernel_rfl) (by kernel_rfl) h1
set_option maxRecDepth 100000 in
theorem triplesSeeks_contract (H : Type) (enc : TypeId × Value → H) (W : World) (base : Nat) (args : Array Value) (ds gs : List (DataW H)) (before : List MemPlace)
    (hval0 : ∀ (j : Nat) t v, Tryz.f5.params[j]? = some t → args[j]? = some v → Value.okWide Tryz.prog W .any base t v)
    (hW : DataW.Whole enc Tryz.prog Tryz.f5.params.toList Rows.triplesSeeksSpec.vars false W args.toList ds gs before) (hk : Rows.uptoSmall H (ds ++ gs) = true) (hg : GlobB W) (hgt : GlobT W) :
    Calls Tryz.prog 5 args W fun e W' => ∃ v, e = .returned v ∧ Rows.triplesSeeksSpec.post enc Tryz.prog Tryz.f5 false true false false W args v W' := by
 have hval : ∀ (j : Nat) t v, Tryz.f5.params[j]? = some t → args[j]? = some v → Value.okWide Tryz.prog W .any base t v := hval0
 have hW' := hW
 obtain ⟨p, q, hA0, hV, rfl, hfz, hnd⟩ := hW
 have hA : DataW.TrodAll enc Tryz.prog W 0 (fun _ => true) true Tryz.f5.params.toList args.toList ds p := hA0
 rw [Tryz.params5] at hA hval
 obtain ⟨v, d, rfl, rfl, h0⟩ := trodAll_one hA
 obtain ⟨rfl, rfl⟩ := trodVars_none hV
 clear hA0 hval0
 simp only [List.append_nil] at hW' hk
 have hlt : ∀ x ∈ p, x.block < W.heap.size := fun x hx => hW'.lt x hx
 have hbk : Rows.uptoBulkAll [d] ≤ 1048576 := of_decide_eq_true hk
 simp only [Rows.uptoBulkAll] at hbk
 obtain ⟨A1, A2, A3, nL, c1, nP, c2, nD, c3, ord, L, P, D, rfl, a1, _, a3, b1, _, b3, n1, _, n3, _⟩ := script_open (by omega) (hval 0 49 v rfl rfl) h0
 refine (seeks_any L a1 D (fun o ho => (a3 o ho).fit) _ A1 A2 A3 nL nP nD c1 c2 c3 ord W (fun _ h => h) b1 b3 (by omega) (by omega) hg hgt).mono fun e W' ⟨he, hg⟩ => ?_
 subst he
 exact ⟨_, rfl, post_of_below (pa := p) (pv := []) hW' (fun _ _ _ => (trodAll_cons_mk (shut_bool Tryz.underlying4 _) trodAll_mk0))
  (fun sp hsp => trodAll_mk1 (WideElems.Trod_stays laidOut (by kernel_rfl) (of_decide_eq_true (by kernel_rfl)) h0 (fun x hx => hg.same (hlt x hx)) hsp)) (fun _ _ => rfl) (by simp)
  hg (ok_one (by kernel_rfl) rfl (okWide_bool_mk Tryz.underlying4 _))⟩

set_option maxRecDepth 100000 in
theorem triplesSeeks_lifted (os : Os) (started : os.Started) (H : Type) (enc : TypeId × Value → H) (F : Stop.Interp) :
    ReturnsInHanded {} Tryz.checked os 5 .any ((Rows.OpenSpec.upto Rows.triplesSeeksSpec).preRow enc Tryz.prog Tryz.f5 Rows.triplesSeeksUptoRow.domain false Rows.triplesSeeksUptoRow.laid) (((Rows.OpenSpec.upto Rows.triplesSeeksSpec).at F).post enc Tryz.prog Tryz.f5 false true false false) := by
 have hx : ∃ places, DataW.whole enc Tryz.prog ((World.laidAll Tryz.prog os Rows.triplesSeeksUptoRow.laid).forCall (fun _ _ => 0) ⟨#[], #[.agg #[.slice none 0 0, .slice none 0 0, .string ⟨#[]⟩, .slice none 0 0]], []⟩).memory Tryz.f5.params.toList Rows.triplesSeeksSpec.vars false #[.agg #[.slice none 0 0, .slice none 0 0, .string ⟨#[]⟩, .slice none 0 0]].toList 8 = some ([.agg [.nil, .nil, .lit (.string []), .nil]], [], places) := ⟨[], by kernel_rfl⟩
 obtain ⟨places, hx⟩ := hx
 refine returnsInHanded_of_row (C := Tryz.checked) (s := Rows.OpenSpec.upto Rows.triplesSeeksSpec) own started (by kernel_rfl) Tryz.func5
  (witness_row_at (enc := enc) (C := Tryz.checked) false (World.laidAll Tryz.prog os Rows.triplesSeeksUptoRow.laid) #[.agg #[.slice none 0 0, .slice none 0 0, .string ⟨#[]⟩, .slice none 0 0]] (World.laidAll_os _ _ _) (by kernel_rfl) (by kernel_rfl) (by kernel_rfl)
   (OpenSpec.preRow_of_cond 8 hx (by kernel_rfl) (fun k hk => by cases hk; kernel_rfl) (by kernel_rfl) (laidMet_laidAll _ (by kernel_rfl) (by kernel_rfl)))) ?_
 intro W base args ds gs before hval hW _ hcond _ hL hsh _
 exact triplesSeeks_contract H enc W base args ds gs before hval hW (hcond _ rfl) (glob_of_shape hsh) (globT_of_laid hL)

theorem triplesSeeks_holds : Rows.TriplesSeeksUptoSaid :=
 OpenClaim.holds_of_cond 5 Tryz.f5 rfl rfl rfl rfl rfl rfl rfl ⟨rfl, rfl, rfl, rfl, rfl⟩ rfl rfl rfl rfl rfl (by kernel_rfl) Tryz.func5 (by kernel_rfl)
  (of_decide_eq_true (by kernel_rfl)) (by unfold Func.isWrapper; first | (rw [if_pos (by decide +kernel)]; kernel_rfl) | (rw [if_neg (by decide +kernel)]; exact ⟨rfl, rfl⟩))
  (fun os started H enc _ F => by rw [OpenClaim.pre_eq_preRow]; exact triplesSeeks_lifted os started H enc F)

theorem triplesSeeks_card : Rows.TriplesSeeksUptoCardSaid :=
 Claim7.holds_tied_plain_at .later [] _ _ _ _ triplesSeeks_holds (fun _ h => by cases h) (by kernel_rfl) (fun _ h => by cases h) triplesSeeksUpto_row_tie rfl ⟨rfl, rfl⟩ (by kernel_rfl) rfl
  (fun f fn hf hfn => by
   obtain rfl : f = 5 := Option.some.inj ((show Tryz.prog.funcNamed "diptych/diptychlaw5.TriplesSeeks" = some 5 by kernel_rfl).symm.trans hf) |>.symm
   obtain rfl : fn = Tryz.f5 := (Option.some.inj (Tryz.func5.symm.trans hfn)).symm
   exact ⟨by kernel_rfl, fun j t ht => by
    rw [Tryz.params5] at ht
    have hm : t ∈ [49] := by simpa using Array.mem_of_getElem? ht
    have hall : ([49].all fun u => !Tryz.prog.wantsStandIn u) = true := by kernel_rfl
    exact (show Tryz.prog.wantsStandIn t = false by simpa using List.all_eq_true.1 hall t hm)⟩)
  (by kernel_rfl)
end Go.Proofs.YtijciakkfpjjbaaGreatDoor
