/- Graphs as plain data, and how they lie in memory. -/
import Derived.Test.YtefhfadjajcmkaaGreatDoorKJ
import Derived.Test.YtefhfadjajcmkaaGreatDoorK0
import Derived.Test.YtefhfadjajcmkaaGreatDoorL0
import Derived.OneCell
import Derived.Laws.OwnMore
import Derived.Test.YtefhfadjajcmkaaGreatDoorK8
set_option linter.unusedVariables false
set_option linter.unusedSimpArgs false
namespace Go.Proofs.YtefhfadjajcmkaaGreatDoor
open Go Go.RowKit Go.Maps
open Go.Lib (hid cell_of_heap)
theorem idx_three (z i:Nat) (hi:i<3) (w:World):(Instr.indexAt 37 (.slice (some ⟨z,0,none⟩) 3 3) (.int .i64 (i:Nat))).run Tryz.prog w = .ok (.pointer (some ⟨z,i*6,none⟩)) w:=by
 rcases (show i=0∨i=1∨i=2 by omega) with rfl | rfl | rfl<;>kernel_rfl
theorem bs3_run (t:Trip) (ss:Nat→Value) (w:World):(Instr.buildSlice 37 3 #[(0,.agg (cellsV (t.get 0) (ss 0))),(1,.agg (cellsV (t.get 1) (ss 1))),(2,.agg (cellsV (t.get 2) (ss 2)))]).run Tryz.prog w = .ok (.slice (some ⟨w.heap.size,0,none⟩) 3 3) (w.alloc (.cells (cellsT t ss) 39)):=by kernel_rfl
structure RfM (w:World) (z:Nat) (c1 c2:Array Value) (wx:World):Prop where
 hb:Below w.heap.size w wx
 hp:wx.heap[z+2]?=some (.cells c2 39 (0,0))
 ht:wx.heap[z+3]?=some (.cells c1 39 (0,0))
theorem RfM.on {w wx w':World} {z:Nat} {c1 c2:Array Value} (h:RfM w z c1 c2 wx) (hb:Below wx.heap.size wx w'):RfM w z c1 c2 w':=
 ⟨h.hb.trans (hb.mono h.hb.size),(hb.block _ (blk_lt h.hp)).trans h.hp,(hb.block _ (blk_lt h.ht)).trans h.ht⟩
theorem RfM.drew {w wx:World} {z:Nat} {c1 c2:Array Value} (h:RfM w z c1 c2 wx):RfM w z c1 c2 wx.drew:=h.on (Below.refl _ _).drew
set_option maxRecDepth 100000 in
set_option maxHeartbeats 8000000 in
theorem refFits_any (t P:Trip) (ts ps:Nat→Value) (w:World) (G:Nat→Prop) (hG:∀g,G g→g<w.heap.size) (hl:∀e,e<3→(t.get e).list=[]) (ht:∀e,e<3→∃A cap,ts e = .slice A 0 cap) (hp:∀e,e<3→VRd w G (P.get e) (.agg (cellsV (P.get e) (ps e)))) (hsz:∀e,e<3→sizeL (P.get e).list≤999999999) :
    Calls Tryz.prog 63 #[.agg (cellsT P ps),.agg (cellsT t ts)] w (ToldB (fitsT P t) w):=by
 have HSM:=hid (λ(W:World) (hb:Below w.heap.size w W) (e:Nat) (he:e<3)=>(show Calls Tryz.prog 22 #[.agg (cellsV (P.get e) (ps e)),.agg (cellsV (t.get e) (ts e))] W (ToldB (sameB (P.get e) (t.get e)) W) from by
  obtain⟨A,ca,e1⟩:=ht e he
  rw[e1]
  exact sameW_any (P.get e) (t.get e) (hsz e he) G (λ_=>False) _ _ W (λg hg=>Nat.lt_of_lt_of_le (hG g hg) hb.size) (λ_ h=>h.elim) ((hp e he).under hb hG) (scal_rd W _ (hl e he) A ca)))
 have HST:=hid (λ(W:World) (e:Nat) (he:e<3) (d:Nat) (hd:d<3)=>(show Calls Tryz.prog 22 #[.agg (cellsV (t.get e) (ts e)),.agg (cellsV (t.get d) (ts d))] W (ToldB (sameB (t.get e) (t.get d)) W) from by
  obtain⟨A,ca,e1⟩:=ht e he
  obtain⟨B,cb,e2⟩:=ht d hd
  rw[e1,e2]
  exact sameW_any (t.get e) (t.get d) (by rw[hl e he];decide) (λ_=>False) (λ_=>False) _ _ W (λ_ h=>h.elim) (λ_ h=>h.elim) (scal_rd W _ (hl e he) A ca) (scal_rd W _ (hl d hd) B cb)))
 clear hG hl ht hp hsz
 unfold ToldB at HSM HST ⊢
 have HNO:=hid (λ(i:Nat) (hi:i<3) (h:¬okI P t i) (W:World) (hb:Below w.heap.size w W)=>(show Ending.returned (Value.bool false) = .returned (.bool (fitsT P t))∧Below w.heap.size w W from ⟨congrArg (λb=>Ending.returned (Value.bool b)) (fitsT_not hi h).symm,hb⟩))
 have HYES:=hid (λ(h:∀i,i<3→okI P t i) (W:World) (hb:Below w.heap.size w W)=>(show Ending.returned (Value.bool true) = .returned (.bool (fitsT P t))∧Below w.heap.size w W from ⟨congrArg (λb=>Ending.returned (Value.bool b)) (fitsT_ok.2 h).symm,hb⟩))
 have BS1:=hid (bs3_run t ts)
 have BS2:=hid (bs3_run P ps)
 obtain⟨c1,Hc1⟩:=name18 t ts
 obtain⟨c2,Hc2⟩:=name18 P ps
 rw[Hc1.out]at BS1
 rw[Hc2.out]at BS2
 rw[Hc1.out,Hc2.out]
 obtain⟨u0,Hu0⟩:=name6 (t.get 0) (ts 0)
 obtain⟨u1,Hu1⟩:=name6 (t.get 1) (ts 1)
 obtain⟨u2,Hu2⟩:=name6 (t.get 2) (ts 2)
 obtain⟨v0,Hv0⟩:=name6 (P.get 0) (ps 0)
 obtain⟨v1,Hv1⟩:=name6 (P.get 1) (ps 1)
 obtain⟨v2,Hv2⟩:=name6 (P.get 2) (ps 2)
 rw[Hu0.out,Hu1.out,Hu2.out]at BS1
 rw[Hv0.out,Hv1.out,Hv2.out]at BS2
 obtain⟨z,Hz⟩:=name_itV w.heap.size
 obtain⟨w1,HW1⟩:=name_itV ((w.alloc (.cells c2 45)).alloc (.cells c1 41))
 have HB1:=hid (show Below w.heap.size w w1 from by rw[←HW1.out];exact two_new w _ _)
 have HP1:=hid (show w1.heap[z]?=some (.cells c2 45 (0,0)) from by rw[←HW1.out,←Hz.out];exact heap_alloc2_old w _ _)
 have HT1:=hid (show w1.heap[z+1]?=some (.cells c1 41 (0,0)) from by rw[←HW1.out,←Hz.out];exact heap_alloc2_new w _ _)
 have HS1:=hid (show w1.heap.size=z+2 from by rw[←HW1.out,←Hz.out];simp)
 have HM3:=hid (show RfM w z c1 c2 ((w1.alloc (.cells c2 39)).alloc (.cells c1 39)) from by
  refine⟨(HB1.out.alloc (by have:=HB1.out.size;omega) _).alloc (by have:=HB1.out.size;simp;omega) _,?_,?_⟩
  ·have:=heap_alloc2_old w1 (.cells c2 39) (.cells c1 39)
   rwa [HS1.out]at this
  ·have:=heap_alloc2_new w1 (.cells c2 39) (.cells c1 39)
   rwa [HS1.out]at this)
 have HX1:=hid (show (w1.alloc (.cells c2 39)).heap[z+1]?=some (.cells c1 41 (0,0)) from (((Below.refl _ _).alloc (Nat.le_refl _) _).block (z+1) (blk_lt HT1.out)).trans HT1.out)
 have HS2:=hid (show (w1.alloc (.cells c2 39)).heap.size=z+3 from by simp[HS1.out])
 have HKD:=hid (λ(W:World) (hv:RfM w z c1 c2 W) (e:Nat) (he:e<3)=>(show W.cell? ⟨z+2,e*6,none⟩=some (.int .i64 (P.get e).kind) from by
  have:=part_range hv.hp Hc2 he 0 (.int .i64 (P.get e).kind) rfl
  rwa [Nat.add_zero]at this))
 have HTX:=hid (λ(W:World) (hv:RfM w z c1 c2 W) (e:Nat) (he:e<3)=>(show W.cell? ⟨z+2,e*6+3,none⟩=some (.string (P.get e).text) from part_range hv.hp Hc2 he 3 (.string (P.get e).text) rfl))
 have IV0:=hid (infoV6.trans (congrArg some Hv0.size.symm))
 have IU0:=hid (infoV6.trans (congrArg some Hu0.size.symm))
 have LV0:=hid (λi (hi:i<v0.size)=>(show w1.cell? ((⟨z,0,none⟩:Addr).add i)=v0[i]? from by
  rw[Addr.add_mid,cell_of_row w1 z (0+i) c2 _ _ HP1.out,←Hv0.out,←Hc2.out]
  exact cellsT_part P ps 0 (by omega) i (by rwa [Hv0.size]at hi)))
 have LU0:=hid (λi (hi:i<u0.size)=>(show (w1.alloc (.cells c2 39)).cell? ((⟨z+1,0,none⟩:Addr).add i)=u0[i]? from by
  rw[Addr.add_mid,cell_of_row _ (z+1) (0+i) c1 _ _ HX1.out,←Hu0.out,←Hc1.out]
  exact cellsT_part t ts 0 (by omega) i (by rwa [Hu0.size]at hi)))
 have IV1:=hid (infoV6.trans (congrArg some Hv1.size.symm))
 have IU1:=hid (infoV6.trans (congrArg some Hu1.size.symm))
 have LV1:=hid (λi (hi:i<v1.size)=>(show w1.cell? ((⟨z,6,none⟩:Addr).add i)=v1[i]? from by
  rw[Addr.add_mid,cell_of_row w1 z (6+i) c2 _ _ HP1.out,←Hv1.out,←Hc2.out]
  exact cellsT_part P ps 1 (by omega) i (by rwa [Hv1.size]at hi)))
 have LU1:=hid (λi (hi:i<u1.size)=>(show (w1.alloc (.cells c2 39)).cell? ((⟨z+1,6,none⟩:Addr).add i)=u1[i]? from by
  rw[Addr.add_mid,cell_of_row _ (z+1) (6+i) c1 _ _ HX1.out,←Hu1.out,←Hc1.out]
  exact cellsT_part t ts 1 (by omega) i (by rwa [Hu1.size]at hi)))
 have IV2:=hid (infoV6.trans (congrArg some Hv2.size.symm))
 have IU2:=hid (infoV6.trans (congrArg some Hu2.size.symm))
 have LV2:=hid (λi (hi:i<v2.size)=>(show w1.cell? ((⟨z,12,none⟩:Addr).add i)=v2[i]? from by
  rw[Addr.add_mid,cell_of_row w1 z (12+i) c2 _ _ HP1.out,←Hv2.out,←Hc2.out]
  exact cellsT_part P ps 2 (by omega) i (by rwa [Hv2.size]at hi)))
 have LU2:=hid (λi (hi:i<u2.size)=>(show (w1.alloc (.cells c2 39)).cell? ((⟨z+1,12,none⟩:Addr).add i)=u2[i]? from by
  rw[Addr.add_mid,cell_of_row _ (z+1) (12+i) c1 _ _ HX1.out,←Hu2.out,←Hc1.out]
  exact cellsT_part t ts 2 (by omega) i (by rwa [Hu2.size]at hi)))
 go_enter Tryz.func63,Tryz.ntmps63
 go_upto_region 1 with fail
 rw[HW1.out,Hz.out]
 clear HW1
 obtain⟨w2,HW2⟩:=name_itV (w1.alloc (.cells c2 39))
 rw[HW2.out]at HM3 HX1 HS2 LU0 LU1 LU2
 go_upto_region 2 with (first
  | ((with_reducible refine at_dst (some 10) ?_);refine ld_armG (by rfl) 39 _ rfl rfl v0 _ LV0.out Tryz.underlying39 rfl IV0.out ?_)
  | ((with_reducible refine at_dst (some 12) ?_);refine ld_armG (by rfl) 39 _ rfl rfl v1 _ LV1.out Tryz.underlying39 rfl IV1.out ?_)
  | ((with_reducible refine at_dst (some 14) ?_);refine ld_armG (by rfl) 39 _ rfl rfl v2 _ LV2.out Tryz.underlying39 rfl IV2.out ?_)
  | ((with_reducible refine at_dst (some 15) ?_);refine bs_arm rfl 37 3 _ rfl #[(0,.agg v0),(1,.agg v1),(2,.agg v2)] (by kernel_rfl) (.slice (some ⟨w1.heap.size,0,none⟩) 3 3) _ (BS2.out w1) ?_))
 rw[HS1.out,HW2.out]
 obtain⟨w3,HW3⟩:=name_itV (w2.alloc (.cells c1 39))
 rw[HW3.out]at HM3
 go_upto_region 3 with (first
  | ((with_reducible refine at_dst (some 17) ?_);refine ld_armG (by rfl) 39 _ rfl rfl u0 _ LU0.out Tryz.underlying39 rfl IU0.out ?_)
  | ((with_reducible refine at_dst (some 19) ?_);refine ld_armG (by rfl) 39 _ rfl rfl u1 _ LU1.out Tryz.underlying39 rfl IU1.out ?_)
  | ((with_reducible refine at_dst (some 21) ?_);refine ld_armG (by rfl) 39 _ rfl rfl u2 _ LU2.out Tryz.underlying39 rfl IU2.out ?_)
  | ((with_reducible refine at_dst (some 22) ?_);refine bs_arm rfl 37 3 _ rfl #[(0,.agg u0),(1,.agg u1),(2,.agg u2)] (by kernel_rfl) (.slice (some ⟨w2.heap.size,0,none⟩) 3 3) _ (BS1.out w2) ?_))
 rw[HS2.out,HW3.out]
 clear HW2 HW3 BS1 BS2
 go_wp2_with fail
 go_loopw [7] (λs wx=>∃i:Nat,i≤3∧s = .int .i64 (i:Nat)∧Hid (RfM w z c1 c2 wx)∧Hid (∀e,e<i→okI P t e)) (λs _=>3-(intOf s).toNat)
 case atStart=>exact⟨0,by omega,rfl,HM3,hid (λe he=>absurd he (by omega))⟩
 case round=>
  obtain⟨i,hi,rfl,HM,HOK⟩:=hrel
  by_cases h3:i=3
  ·subst h3
   have HE:=hid (HYES.out HOK.out wr HM.out.hb)
   clear hi
   go_wp2_with fail
   go_ret
   exact HE.out
  ·have HLT:=hid (show i<3 from by omega)
   have e1:(i:Int)<3:=by omega
   have HI3:=hid (λW=>idx_three (z+2) i HLT.out W)
   have HI2:=hid (λW=>idx_three (z+3) i HLT.out W)
   have HK0:=hid (λW hv=>HKD.out W hv i HLT.out)
   have HX0:=hid (λW hv=>HTX.out W hv i HLT.out)
   have HLA:=hid (λ(W:World) (hv:RfM w z c1 c2 W)=>ld_part (part_range hv.ht Hc1 HLT.out) 39 _ Tryz.underlying39 rfl (by kernel_rfl))
   have HLB:=hid (λ(W:World) (hv:RfM w z c1 c2 W)=>ld_part (part_range hv.hp Hc2 HLT.out) 39 _ Tryz.underlying39 rfl (by kernel_rfl))
   have HS1':=hid (λW hb=>HSM.out W hb i HLT.out)
   obtain⟨iq,Hiq⟩:=name_itV (i*6)
   obtain⟨kd,Hkd⟩:=name_itV (P.get i).kind
   obtain⟨xi,Hxi⟩:=name_itV (P.get i).text
   obtain⟨u,Hu⟩:=name_itV (cellsV (t.get i) (ts i))
   obtain⟨v,Hu'⟩:=name_itV (cellsV (P.get i) (ps i))
   rw[Hiq.out]at HI2 HI3 HK0 HX0 HLA HLB
   rw[Hkd.out]at HK0
   rw[Hxi.out]at HX0
   rw[Hu.out]at HLA HS1'
   rw[Hu'.out]at HLB HS1'
   have q4:=HK0.out wr HM.out
   by_cases hk0:kd=0
   ·subst hk0
    have HKZ:=hid Hkd.out
    clear hi h3
    go_upto_region 9 with ((with_reducible refine at_dst (some 29) ?_);refine val_arm rfl (.pointer (some ⟨z+2,iq,none⟩)) (val_of (HI3.out _)) ?_)
    clear q4 e1
    go_wp2_with fail
    go_loopw [8] (λs wx=>∃k:Nat,k≤i∧s = .int .i64 (k:Nat)∧Hid (RfM w z c1 c2 wx)∧Hid (∀e,e<k→okK P t i e)) (λs _=>i-(intOf s).toNat)
    case atStart=>exact⟨0,by omega,rfl,HM,hid (λe he=>absurd he (by omega))⟩
    case round=>
     clear HM
     obtain⟨k,hk,rfl,HM,HOKK⟩:=hrel
     by_cases hki:k=i
     ·subst hki
      have HN:=hid (show ∀e,e<k+1→okI P t e from λe he=>by
       by_cases h:e=k
       ·subst h
        exact⟨λh0=>absurd HKZ.out h0,λ_=>HOKK.out⟩
       ·exact HOK.out e (by omega))
      clear hk
      have h9:=HLT.out
      go_wp2_with fail
      go_roundw
      case rel=>exact⟨k+1,by have:=HLT.out;omega,by first | rfl | go_num,HM,HN⟩
      case measure=>have:=HLT.out;simp[intOf];omega
     ·have HKI:=hid (show k<i from by omega)
      have e1:(k:Int)<i:=by omega
      have HK3:=hid (show k<3 from by have:=HLT.out;omega)
      have HJ3:=hid (λW=>idx_three (z+2) k HK3.out W)
      have HJ2:=hid (λW=>idx_three (z+3) k HK3.out W)
      have HK1:=hid (λW hv=>HKD.out W hv k HK3.out)
      have HX1':=hid (λW hv=>HTX.out W hv k HK3.out)
      have HLK:=hid (λ(W:World) (hv:RfM w z c1 c2 W)=>ld_part (part_range hv.ht Hc1 HK3.out) 39 _ Tryz.underlying39 rfl (by kernel_rfl))
      have HS2':=hid (λW=>HST.out W k HK3.out i HLT.out)
      obtain⟨kq,Hkq⟩:=name_itV (k*6)
      obtain⟨kk,Hkk⟩:=name_itV (P.get k).kind
      obtain⟨xk,Hxk⟩:=name_itV (P.get k).text
      obtain⟨uk,Huk⟩:=name_itV (cellsV (t.get k) (ts k))
      rw[Hkq.out]at HJ2 HJ3 HK1 HX1' HLK
      rw[Hkk.out]at HK1
      rw[Hxk.out]at HX1'
      rw[Huk.out]at HLK HS2'
      rw[Hu.out]at HS2'
      obtain⟨b1,B1⟩:=name_itV (kk==0)
      obtain⟨b2,B2⟩:=name_itV (!xi.toList.isEmpty)
      obtain⟨b3,B3⟩:=name_itV (xk.toList==xi.toList)
      obtain⟨b4,B4⟩:=name_itV (sameB (t.get k) (t.get i))
      rw[B4.out]at HS2'
      have HNX:=hid (λh:okK P t i k=>(show ∀e,e<k+1→okK P t i e from λe he=>by
       by_cases h2:e=k
       ·subst h2;exact h
       ·exact HOKK.out e (by omega)))
      have HBAD:=hid (λ(h:¬okK P t i k)=>(show ¬okI P t i from λh2=>h (h2.2 HKZ.out k HKI.out)))
      clear hk hki
      go_upto_region 12 with fail
      clear e1
      refine wp_region_held_drew (S:=λW'=>RfM w z c1 c2 W') (by kernel_rfl) HM.out.drew (λhH=>?_)
      refine Boxed.out ?_
      cases b1 with
      | false=>
       refine tkV 0 48 (.slice (some ⟨z+2,0,none⟩) 3 3) hH (λhH=>?_)
       try simp only[Act.put,aT,aZ,aS]
       refine tkV 1 49 (.int .i64 (k:Nat)) hH (λhH=>?_)
       try simp only[Act.put,aT,aZ,aS]
       refine tkW 2 50 (.pointer (some ⟨z+2,kq,none⟩)) hH (λw hSw=>?_) (λhH=>?_)
       ·exact val_of (HJ3.out w)
       try simp only[Act.put,aT,aZ,aS]
       refine tkV 3 51 (.pointer (some ⟨z+2,kq,none⟩)) hH (λhH=>?_)
       try simp only[Act.put,aT,aZ,aS]
       refine tkW 4 52 (.int .i64 kk) hH (λw hSw=>?_) (λhH=>?_)
       ·have p9:=HK1.out w hSw
        unfold runsTo
        go_simp
       try simp only[Act.put,aT,aZ,aS]
       refine tkW 5 53 (.bool false) hH (λw hSw=>?_) (λhH=>?_)
       ·have p9:=B1.out
        unfold runsTo
        go_simp
       try simp only[Act.put,aT,aZ,aS]
       refine tkV 6 54 (.bool false) hH (λhH=>?_)
       try simp only[Act.put,aT,aZ,aS]
       refine take_skip 7 55 (by kernel_rfl) (by rfl) (by kernel_rfl) (by kernel_rfl) (by kernel_rfl) (λ_ _ _ h=>h) hH (λhH=>?_)
       try simp only[Act.put,aT,aZ,aS]
       refine take_skip 8 56 (by kernel_rfl) (by rfl) (by kernel_rfl) (by kernel_rfl) (by kernel_rfl) (λ_ _ _ h=>h) hH (λhH=>?_)
       try simp only[Act.put,aT,aZ,aS]
       refine take_skip 9 57 (by kernel_rfl) (by rfl) (by kernel_rfl) (by kernel_rfl) (by kernel_rfl) (λ_ _ _ h=>h) hH (λhH=>?_)
       try simp only[Act.put,aT,aZ,aS]
       refine take_skip 10 58 (by kernel_rfl) (by rfl) (by kernel_rfl) (by kernel_rfl) (by kernel_rfl) (λ_ _ _ h=>h) hH (λhH=>?_)
       try simp only[Act.put,aT,aZ,aS]
       refine take_skip 11 59 (by kernel_rfl) (by rfl) (by kernel_rfl) (by kernel_rfl) (by kernel_rfl) (λ_ _ _ h=>h) hH (λhH=>?_)
       try simp only[Act.put,aT,aZ,aS]
       refine take_skip 12 60 (by kernel_rfl) (by rfl) (by kernel_rfl) (by kernel_rfl) (by kernel_rfl) (λ_ _ _ h=>h) hH (λhH=>?_)
       try simp only[Act.put,aT,aZ,aS]
       refine tkV 13 61 (.bool false) hH (λhH=>?_)
       try simp only[Act.put,aT,aZ,aS]
       refine tkV 14 62 (.bool false) hH (λhH=>?_)
       try simp only[Act.put,aT,aZ,aS]
       refine take_skip 15 63 (by kernel_rfl) (by rfl) (by kernel_rfl) (by kernel_rfl) (by kernel_rfl) (λ_ _ _ h=>h) hH (λhH=>?_)
       try simp only[Act.put,aT,aZ,aS]
       refine take_skip 16 64 (by kernel_rfl) (by rfl) (by kernel_rfl) (by kernel_rfl) (by kernel_rfl) (λ_ _ _ h=>h) hH (λhH=>?_)
       try simp only[Act.put,aT,aZ,aS]
       refine take_skip 17 65 (by kernel_rfl) (by rfl) (by kernel_rfl) (by kernel_rfl) (by kernel_rfl) (λ_ _ _ h=>h) hH (λhH=>?_)
       try simp only[Act.put,aT,aZ,aS]
       refine take_skip 18 66 (by kernel_rfl) (by rfl) (by kernel_rfl) (by kernel_rfl) (by kernel_rfl) (λ_ _ _ h=>h) hH (λhH=>?_)
       try simp only[Act.put,aT,aZ,aS]
       refine take_skip 19 67 (by kernel_rfl) (by rfl) (by kernel_rfl) (by kernel_rfl) (by kernel_rfl) (λ_ _ _ h=>h) hH (λhH=>?_)
       try simp only[Act.put,aT,aZ,aS]
       refine take_skip 20 68 (by kernel_rfl) (by rfl) (by kernel_rfl) (by kernel_rfl) (by kernel_rfl) (λ_ _ _ h=>h) hH (λhH=>?_)
       try simp only[Act.put,aT,aZ,aS]
       refine take_skip 21 69 (by kernel_rfl) (by rfl) (by kernel_rfl) (by kernel_rfl) (by kernel_rfl) (λ_ _ _ h=>h) hH (λhH=>?_)
       try simp only[Act.put,aT,aZ,aS]
       refine take_skip 22 70 (by kernel_rfl) (by rfl) (by kernel_rfl) (by kernel_rfl) (by kernel_rfl) (λ_ _ _ h=>h) hH (λhH=>?_)
       try simp only[Act.put,aT,aZ,aS]
       refine take_skip 23 71 (by kernel_rfl) (by rfl) (by kernel_rfl) (by kernel_rfl) (by kernel_rfl) (λ_ _ _ h=>h) hH (λhH=>?_)
       try simp only[Act.put,aT,aZ,aS]
       refine take_skip 24 72 (by kernel_rfl) (by rfl) (by kernel_rfl) (by kernel_rfl) (by kernel_rfl) (λ_ _ _ h=>h) hH (λhH=>?_)
       try simp only[Act.put,aT,aZ,aS]
       refine take_skip 25 73 (by kernel_rfl) (by rfl) (by kernel_rfl) (by kernel_rfl) (by kernel_rfl) (λ_ _ _ h=>h) hH (λhH=>?_)
       try simp only[Act.put,aT,aZ,aS]
       refine tkV 26 74 (.bool false) hH (λhH=>?_)
       try simp only[Act.put,aT,aZ,aS]
       refine tkV 27 75 (.bool false) hH (λhH=>?_)
       try simp only[Act.put,aT,aZ,aS]
       refine take_skip 28 76 (by kernel_rfl) (by rfl) (by kernel_rfl) (by kernel_rfl) (by kernel_rfl) (λ_ _ _ h=>h) hH (λhH=>?_)
       try simp only[Act.put,aT,aZ,aS]
       refine take_skip 29 77 (by kernel_rfl) (by rfl) (by kernel_rfl) (by kernel_rfl) (by kernel_rfl) (λ_ _ _ h=>h) hH (λhH=>?_)
       try simp only[Act.put,aT,aZ,aS]
       refine take_skip 30 78 (by kernel_rfl) (by rfl) (by kernel_rfl) (by kernel_rfl) (by kernel_rfl) (λ_ _ _ h=>h) hH (λhH=>?_)
       try simp only[Act.put,aT,aZ,aS]
       refine take_skip 31 79 (by kernel_rfl) (by rfl) (by kernel_rfl) (by kernel_rfl) (by kernel_rfl) (λ_ _ _ h=>h) hH (λhH=>?_)
       try simp only[Act.put,aT,aZ,aS]
       refine take_skip 32 80 (by kernel_rfl) (by rfl) (by kernel_rfl) (by kernel_rfl) (by kernel_rfl) (λ_ _ _ h=>h) hH (λhH=>?_)
       try simp only[Act.put,aT,aZ,aS]
       refine take_skip 33 81 (by kernel_rfl) (by rfl) (by kernel_rfl) (by kernel_rfl) (by kernel_rfl) (λ_ _ _ h=>h) hH (λhH=>?_)
       try simp only[Act.put,aT,aZ,aS]
       refine take_skip 34 82 (by kernel_rfl) (by rfl) (by kernel_rfl) (by kernel_rfl) (by kernel_rfl) (λ_ _ _ h=>h) hH (λhH=>?_)
       try simp only[Act.put,aT,aZ,aS]
       refine take_skip 35 83 (by kernel_rfl) (by rfl) (by kernel_rfl) (by kernel_rfl) (by kernel_rfl) (λ_ _ _ h=>h) hH (λhH=>?_)
       try simp only[Act.put,aT,aZ,aS]
       refine take_skip 36 84 (by kernel_rfl) (by rfl) (by kernel_rfl) (by kernel_rfl) (by kernel_rfl) (λ_ _ _ h=>h) hH (λhH=>?_)
       try simp only[Act.put,aT,aZ,aS]
       refine take_skip 37 85 (by kernel_rfl) (by rfl) (by kernel_rfl) (by kernel_rfl) (by kernel_rfl) (λ_ _ _ h=>h) hH (λhH=>?_)
       try simp only[Act.put,aT,aZ,aS]
       refine tkV 38 86 (.bool false) hH (λhH=>?_)
       try simp only[Act.put,aT,aZ,aS]
       refine⟨wpAnyH_done (by kernel_rfl) ?_ _⟩
       clear hH
       have h9:=HK3.out
       have HOX:=hid (HNX.out (by
        intro h _ _
        exfalso
        have h2:=B1.out
        rw[Hkk.out]at h
        rw[h]at h2
        cases h2))
       go_wp2_with fail
       go_roundw
       case rel=>exact⟨k+1,by have:=HKI.out;omega,by first | rfl | go_num,hid HM.out.drew,HOX⟩
       case measure=>have:=HKI.out;simp[intOf];omega
      | true=>
       cases b2 with
       | false=>
        refine tkV 0 48 (.slice (some ⟨z+2,0,none⟩) 3 3) hH (λhH=>?_)
        try simp only[Act.put,aT,aZ,aS]
        refine tkV 1 49 (.int .i64 (k:Nat)) hH (λhH=>?_)
        try simp only[Act.put,aT,aZ,aS]
        refine tkW 2 50 (.pointer (some ⟨z+2,kq,none⟩)) hH (λw hSw=>?_) (λhH=>?_)
        ·exact val_of (HJ3.out w)
        try simp only[Act.put,aT,aZ,aS]
        refine tkV 3 51 (.pointer (some ⟨z+2,kq,none⟩)) hH (λhH=>?_)
        try simp only[Act.put,aT,aZ,aS]
        refine tkW 4 52 (.int .i64 kk) hH (λw hSw=>?_) (λhH=>?_)
        ·have p9:=HK1.out w hSw
         unfold runsTo
         go_simp
        try simp only[Act.put,aT,aZ,aS]
        refine tkW 5 53 (.bool true) hH (λw hSw=>?_) (λhH=>?_)
        ·have p9:=B1.out
         unfold runsTo
         go_simp
        try simp only[Act.put,aT,aZ,aS]
        refine tkV 6 54 (.bool true) hH (λhH=>?_)
        try simp only[Act.put,aT,aZ,aS]
        refine tkV 7 55 (.slice (some ⟨z+2,0,none⟩) 3 3) hH (λhH=>?_)
        try simp only[Act.put,aT,aZ,aS]
        refine tkV 8 56 (.int .i64 (i:Nat)) hH (λhH=>?_)
        try simp only[Act.put,aT,aZ,aS]
        refine tkW 9 57 (.pointer (some ⟨z+2,iq,none⟩)) hH (λw hSw=>?_) (λhH=>?_)
        ·exact val_of (HI3.out w)
        try simp only[Act.put,aT,aZ,aS]
        refine tkV 10 58 (.pointer (some ⟨z+2,iq+3,none⟩)) hH (λhH=>?_)
        try simp only[Act.put,aT,aZ,aS]
        refine tkW 11 59 (.string xi) hH (λw hSw=>?_) (λhH=>?_)
        ·have p9:=HX0.out w hSw
         unfold runsTo
         go_simp
        try simp only[Act.put,aT,aZ,aS]
        refine tkW 12 60 (.bool false) hH (λw hSw=>?_) (λhH=>?_)
        ·have p9:=B2.out
         unfold runsTo
         go_simp
        try simp only[Act.put,aT,aZ,aS]
        refine tkV 13 61 (.bool false) hH (λhH=>?_)
        try simp only[Act.put,aT,aZ,aS]
        refine tkV 14 62 (.bool false) hH (λhH=>?_)
        try simp only[Act.put,aT,aZ,aS]
        refine take_skip 15 63 (by kernel_rfl) (by rfl) (by kernel_rfl) (by kernel_rfl) (by kernel_rfl) (λ_ _ _ h=>h) hH (λhH=>?_)
        try simp only[Act.put,aT,aZ,aS]
        refine take_skip 16 64 (by kernel_rfl) (by rfl) (by kernel_rfl) (by kernel_rfl) (by kernel_rfl) (λ_ _ _ h=>h) hH (λhH=>?_)
        try simp only[Act.put,aT,aZ,aS]
        refine take_skip 17 65 (by kernel_rfl) (by rfl) (by kernel_rfl) (by kernel_rfl) (by kernel_rfl) (λ_ _ _ h=>h) hH (λhH=>?_)
        try simp only[Act.put,aT,aZ,aS]
        refine take_skip 18 66 (by kernel_rfl) (by rfl) (by kernel_rfl) (by kernel_rfl) (by kernel_rfl) (λ_ _ _ h=>h) hH (λhH=>?_)
        try simp only[Act.put,aT,aZ,aS]
        refine take_skip 19 67 (by kernel_rfl) (by rfl) (by kernel_rfl) (by kernel_rfl) (by kernel_rfl) (λ_ _ _ h=>h) hH (λhH=>?_)
        try simp only[Act.put,aT,aZ,aS]
        refine take_skip 20 68 (by kernel_rfl) (by rfl) (by kernel_rfl) (by kernel_rfl) (by kernel_rfl) (λ_ _ _ h=>h) hH (λhH=>?_)
        try simp only[Act.put,aT,aZ,aS]
        refine take_skip 21 69 (by kernel_rfl) (by rfl) (by kernel_rfl) (by kernel_rfl) (by kernel_rfl) (λ_ _ _ h=>h) hH (λhH=>?_)
        try simp only[Act.put,aT,aZ,aS]
        refine take_skip 22 70 (by kernel_rfl) (by rfl) (by kernel_rfl) (by kernel_rfl) (by kernel_rfl) (λ_ _ _ h=>h) hH (λhH=>?_)
        try simp only[Act.put,aT,aZ,aS]
        refine take_skip 23 71 (by kernel_rfl) (by rfl) (by kernel_rfl) (by kernel_rfl) (by kernel_rfl) (λ_ _ _ h=>h) hH (λhH=>?_)
        try simp only[Act.put,aT,aZ,aS]
        refine take_skip 24 72 (by kernel_rfl) (by rfl) (by kernel_rfl) (by kernel_rfl) (by kernel_rfl) (λ_ _ _ h=>h) hH (λhH=>?_)
        try simp only[Act.put,aT,aZ,aS]
        refine take_skip 25 73 (by kernel_rfl) (by rfl) (by kernel_rfl) (by kernel_rfl) (by kernel_rfl) (λ_ _ _ h=>h) hH (λhH=>?_)
        try simp only[Act.put,aT,aZ,aS]
        refine tkV 26 74 (.bool false) hH (λhH=>?_)
        try simp only[Act.put,aT,aZ,aS]
        refine tkV 27 75 (.bool false) hH (λhH=>?_)
        try simp only[Act.put,aT,aZ,aS]
        refine take_skip 28 76 (by kernel_rfl) (by rfl) (by kernel_rfl) (by kernel_rfl) (by kernel_rfl) (λ_ _ _ h=>h) hH (λhH=>?_)
        try simp only[Act.put,aT,aZ,aS]
        refine take_skip 29 77 (by kernel_rfl) (by rfl) (by kernel_rfl) (by kernel_rfl) (by kernel_rfl) (λ_ _ _ h=>h) hH (λhH=>?_)
        try simp only[Act.put,aT,aZ,aS]
        refine take_skip 30 78 (by kernel_rfl) (by rfl) (by kernel_rfl) (by kernel_rfl) (by kernel_rfl) (λ_ _ _ h=>h) hH (λhH=>?_)
        try simp only[Act.put,aT,aZ,aS]
        refine take_skip 31 79 (by kernel_rfl) (by rfl) (by kernel_rfl) (by kernel_rfl) (by kernel_rfl) (λ_ _ _ h=>h) hH (λhH=>?_)
        try simp only[Act.put,aT,aZ,aS]
        refine take_skip 32 80 (by kernel_rfl) (by rfl) (by kernel_rfl) (by kernel_rfl) (by kernel_rfl) (λ_ _ _ h=>h) hH (λhH=>?_)
        try simp only[Act.put,aT,aZ,aS]
        refine take_skip 33 81 (by kernel_rfl) (by rfl) (by kernel_rfl) (by kernel_rfl) (by kernel_rfl) (λ_ _ _ h=>h) hH (λhH=>?_)
        try simp only[Act.put,aT,aZ,aS]
        refine take_skip 34 82 (by kernel_rfl) (by rfl) (by kernel_rfl) (by kernel_rfl) (by kernel_rfl) (λ_ _ _ h=>h) hH (λhH=>?_)
        try simp only[Act.put,aT,aZ,aS]
        refine take_skip 35 83 (by kernel_rfl) (by rfl) (by kernel_rfl) (by kernel_rfl) (by kernel_rfl) (λ_ _ _ h=>h) hH (λhH=>?_)
        try simp only[Act.put,aT,aZ,aS]
        refine take_skip 36 84 (by kernel_rfl) (by rfl) (by kernel_rfl) (by kernel_rfl) (by kernel_rfl) (λ_ _ _ h=>h) hH (λhH=>?_)
        try simp only[Act.put,aT,aZ,aS]
        refine take_skip 37 85 (by kernel_rfl) (by rfl) (by kernel_rfl) (by kernel_rfl) (by kernel_rfl) (λ_ _ _ h=>h) hH (λhH=>?_)
        try simp only[Act.put,aT,aZ,aS]
        refine tkV 38 86 (.bool false) hH (λhH=>?_)
        try simp only[Act.put,aT,aZ,aS]
        refine⟨wpAnyH_done (by kernel_rfl) ?_ _⟩
        clear hH
        have h9:=HK3.out
        have HOX:=hid (HNX.out (by
         intro _ h _
         exfalso
         have h2:=B2.out
         rw[Hxi.out]at h
         simp only[Bool.not_eq_false',List.isEmpty_iff]at h2
         exact h (bytes_eq (by rw[←ByteArray.toList_eq,h2]))))
        go_wp2_with fail
        go_roundw
        case rel=>exact⟨k+1,by have:=HKI.out;omega,by first | rfl | go_num,hid HM.out.drew,HOX⟩
        case measure=>have:=HKI.out;simp[intOf];omega
       | true=>
        cases b3 with
        | false=>
         refine tkV 0 48 (.slice (some ⟨z+2,0,none⟩) 3 3) hH (λhH=>?_)
         try simp only[Act.put,aT,aZ,aS]
         refine tkV 1 49 (.int .i64 (k:Nat)) hH (λhH=>?_)
         try simp only[Act.put,aT,aZ,aS]
         refine tkW 2 50 (.pointer (some ⟨z+2,kq,none⟩)) hH (λw hSw=>?_) (λhH=>?_)
         ·exact val_of (HJ3.out w)
         try simp only[Act.put,aT,aZ,aS]
         refine tkV 3 51 (.pointer (some ⟨z+2,kq,none⟩)) hH (λhH=>?_)
         try simp only[Act.put,aT,aZ,aS]
         refine tkW 4 52 (.int .i64 kk) hH (λw hSw=>?_) (λhH=>?_)
         ·have p9:=HK1.out w hSw
          unfold runsTo
          go_simp
         try simp only[Act.put,aT,aZ,aS]
         refine tkW 5 53 (.bool true) hH (λw hSw=>?_) (λhH=>?_)
         ·have p9:=B1.out
          unfold runsTo
          go_simp
         try simp only[Act.put,aT,aZ,aS]
         refine tkV 6 54 (.bool true) hH (λhH=>?_)
         try simp only[Act.put,aT,aZ,aS]
         refine tkV 7 55 (.slice (some ⟨z+2,0,none⟩) 3 3) hH (λhH=>?_)
         try simp only[Act.put,aT,aZ,aS]
         refine tkV 8 56 (.int .i64 (i:Nat)) hH (λhH=>?_)
         try simp only[Act.put,aT,aZ,aS]
         refine tkW 9 57 (.pointer (some ⟨z+2,iq,none⟩)) hH (λw hSw=>?_) (λhH=>?_)
         ·exact val_of (HI3.out w)
         try simp only[Act.put,aT,aZ,aS]
         refine tkV 10 58 (.pointer (some ⟨z+2,iq+3,none⟩)) hH (λhH=>?_)
         try simp only[Act.put,aT,aZ,aS]
         refine tkW 11 59 (.string xi) hH (λw hSw=>?_) (λhH=>?_)
         ·have p9:=HX0.out w hSw
          unfold runsTo
          go_simp
         try simp only[Act.put,aT,aZ,aS]
         refine tkW 12 60 (.bool true) hH (λw hSw=>?_) (λhH=>?_)
         ·have p9:=B2.out
          unfold runsTo
          go_simp
         try simp only[Act.put,aT,aZ,aS]
         refine tkV 13 61 (.bool true) hH (λhH=>?_)
         try simp only[Act.put,aT,aZ,aS]
         refine tkV 14 62 (.bool true) hH (λhH=>?_)
         try simp only[Act.put,aT,aZ,aS]
         refine tkV 15 63 (.slice (some ⟨z+2,0,none⟩) 3 3) hH (λhH=>?_)
         try simp only[Act.put,aT,aZ,aS]
         refine tkV 16 64 (.int .i64 (k:Nat)) hH (λhH=>?_)
         try simp only[Act.put,aT,aZ,aS]
         refine tkW 17 65 (.pointer (some ⟨z+2,kq,none⟩)) hH (λw hSw=>?_) (λhH=>?_)
         ·exact val_of (HJ3.out w)
         try simp only[Act.put,aT,aZ,aS]
         refine tkV 18 66 (.pointer (some ⟨z+2,kq+3,none⟩)) hH (λhH=>?_)
         try simp only[Act.put,aT,aZ,aS]
         refine tkW 19 67 (.string xk) hH (λw hSw=>?_) (λhH=>?_)
         ·have p9:=HX1'.out w hSw
          unfold runsTo
          go_simp
         try simp only[Act.put,aT,aZ,aS]
         refine tkV 20 68 (.slice (some ⟨z+2,0,none⟩) 3 3) hH (λhH=>?_)
         try simp only[Act.put,aT,aZ,aS]
         refine tkV 21 69 (.int .i64 (i:Nat)) hH (λhH=>?_)
         try simp only[Act.put,aT,aZ,aS]
         refine tkW 22 70 (.pointer (some ⟨z+2,iq,none⟩)) hH (λw hSw=>?_) (λhH=>?_)
         ·exact val_of (HI3.out w)
         try simp only[Act.put,aT,aZ,aS]
         refine tkV 23 71 (.pointer (some ⟨z+2,iq+3,none⟩)) hH (λhH=>?_)
         try simp only[Act.put,aT,aZ,aS]
         refine tkW 24 72 (.string xi) hH (λw hSw=>?_) (λhH=>?_)
         ·have p9:=HX0.out w hSw
          unfold runsTo
          go_simp
         try simp only[Act.put,aT,aZ,aS]
         refine tkW 25 73 (.bool false) hH (λw hSw=>?_) (λhH=>?_)
         ·have p9:=B3.out
          unfold runsTo
          go_simp
         try simp only[Act.put,aT,aZ,aS]
         refine tkV 26 74 (.bool false) hH (λhH=>?_)
         try simp only[Act.put,aT,aZ,aS]
         refine tkV 27 75 (.bool false) hH (λhH=>?_)
         try simp only[Act.put,aT,aZ,aS]
         refine take_skip 28 76 (by kernel_rfl) (by rfl) (by kernel_rfl) (by kernel_rfl) (by kernel_rfl) (λ_ _ _ h=>h) hH (λhH=>?_)
         try simp only[Act.put,aT,aZ,aS]
         refine take_skip 29 77 (by kernel_rfl) (by rfl) (by kernel_rfl) (by kernel_rfl) (by kernel_rfl) (λ_ _ _ h=>h) hH (λhH=>?_)
         try simp only[Act.put,aT,aZ,aS]
         refine take_skip 30 78 (by kernel_rfl) (by rfl) (by kernel_rfl) (by kernel_rfl) (by kernel_rfl) (λ_ _ _ h=>h) hH (λhH=>?_)
         try simp only[Act.put,aT,aZ,aS]
         refine take_skip 31 79 (by kernel_rfl) (by rfl) (by kernel_rfl) (by kernel_rfl) (by kernel_rfl) (λ_ _ _ h=>h) hH (λhH=>?_)
         try simp only[Act.put,aT,aZ,aS]
         refine take_skip 32 80 (by kernel_rfl) (by rfl) (by kernel_rfl) (by kernel_rfl) (by kernel_rfl) (λ_ _ _ h=>h) hH (λhH=>?_)
         try simp only[Act.put,aT,aZ,aS]
         refine take_skip 33 81 (by kernel_rfl) (by rfl) (by kernel_rfl) (by kernel_rfl) (by kernel_rfl) (λ_ _ _ h=>h) hH (λhH=>?_)
         try simp only[Act.put,aT,aZ,aS]
         refine take_skip 34 82 (by kernel_rfl) (by rfl) (by kernel_rfl) (by kernel_rfl) (by kernel_rfl) (λ_ _ _ h=>h) hH (λhH=>?_)
         try simp only[Act.put,aT,aZ,aS]
         refine take_skip 35 83 (by kernel_rfl) (by rfl) (by kernel_rfl) (by kernel_rfl) (by kernel_rfl) (λ_ _ _ h=>h) hH (λhH=>?_)
         try simp only[Act.put,aT,aZ,aS]
         refine take_skip 36 84 (by kernel_rfl) (by rfl) (by kernel_rfl) (by kernel_rfl) (by kernel_rfl) (λ_ _ _ h=>h) hH (λhH=>?_)
         try simp only[Act.put,aT,aZ,aS]
         refine take_skip 37 85 (by kernel_rfl) (by rfl) (by kernel_rfl) (by kernel_rfl) (by kernel_rfl) (λ_ _ _ h=>h) hH (λhH=>?_)
         try simp only[Act.put,aT,aZ,aS]
         refine tkV 38 86 (.bool false) hH (λhH=>?_)
         try simp only[Act.put,aT,aZ,aS]
         refine⟨wpAnyH_done (by kernel_rfl) ?_ _⟩
         clear hH
         have h9:=HK3.out
         have HOX:=hid (HNX.out (by
          intro _ _ h
          exfalso
          have h2:=B3.out
          rw[Hxk.out,Hxi.out]at h
          rw[h]at h2
          simp at h2))
         go_wp2_with fail
         go_roundw
         case rel=>exact⟨k+1,by have:=HKI.out;omega,by first | rfl | go_num,hid HM.out.drew,HOX⟩
         case measure=>have:=HKI.out;simp[intOf];omega
        | true=>
         refine tkV 0 48 (.slice (some ⟨z+2,0,none⟩) 3 3) hH (λhH=>?_)
         try simp only[Act.put,aT,aZ,aS]
         refine tkV 1 49 (.int .i64 (k:Nat)) hH (λhH=>?_)
         try simp only[Act.put,aT,aZ,aS]
         refine tkW 2 50 (.pointer (some ⟨z+2,kq,none⟩)) hH (λw hSw=>?_) (λhH=>?_)
         ·exact val_of (HJ3.out w)
         try simp only[Act.put,aT,aZ,aS]
         refine tkV 3 51 (.pointer (some ⟨z+2,kq,none⟩)) hH (λhH=>?_)
         try simp only[Act.put,aT,aZ,aS]
         refine tkW 4 52 (.int .i64 kk) hH (λw hSw=>?_) (λhH=>?_)
         ·have p9:=HK1.out w hSw
          unfold runsTo
          go_simp
         try simp only[Act.put,aT,aZ,aS]
         refine tkW 5 53 (.bool true) hH (λw hSw=>?_) (λhH=>?_)
         ·have p9:=B1.out
          unfold runsTo
          go_simp
         try simp only[Act.put,aT,aZ,aS]
         refine tkV 6 54 (.bool true) hH (λhH=>?_)
         try simp only[Act.put,aT,aZ,aS]
         refine tkV 7 55 (.slice (some ⟨z+2,0,none⟩) 3 3) hH (λhH=>?_)
         try simp only[Act.put,aT,aZ,aS]
         refine tkV 8 56 (.int .i64 (i:Nat)) hH (λhH=>?_)
         try simp only[Act.put,aT,aZ,aS]
         refine tkW 9 57 (.pointer (some ⟨z+2,iq,none⟩)) hH (λw hSw=>?_) (λhH=>?_)
         ·exact val_of (HI3.out w)
         try simp only[Act.put,aT,aZ,aS]
         refine tkV 10 58 (.pointer (some ⟨z+2,iq+3,none⟩)) hH (λhH=>?_)
         try simp only[Act.put,aT,aZ,aS]
         refine tkW 11 59 (.string xi) hH (λw hSw=>?_) (λhH=>?_)
         ·have p9:=HX0.out w hSw
          unfold runsTo
          go_simp
         try simp only[Act.put,aT,aZ,aS]
         refine tkW 12 60 (.bool true) hH (λw hSw=>?_) (λhH=>?_)
         ·have p9:=B2.out
          unfold runsTo
          go_simp
         try simp only[Act.put,aT,aZ,aS]
         refine tkV 13 61 (.bool true) hH (λhH=>?_)
         try simp only[Act.put,aT,aZ,aS]
         refine tkV 14 62 (.bool true) hH (λhH=>?_)
         try simp only[Act.put,aT,aZ,aS]
         refine tkV 15 63 (.slice (some ⟨z+2,0,none⟩) 3 3) hH (λhH=>?_)
         try simp only[Act.put,aT,aZ,aS]
         refine tkV 16 64 (.int .i64 (k:Nat)) hH (λhH=>?_)
         try simp only[Act.put,aT,aZ,aS]
         refine tkW 17 65 (.pointer (some ⟨z+2,kq,none⟩)) hH (λw hSw=>?_) (λhH=>?_)
         ·exact val_of (HJ3.out w)
         try simp only[Act.put,aT,aZ,aS]
         refine tkV 18 66 (.pointer (some ⟨z+2,kq+3,none⟩)) hH (λhH=>?_)
         try simp only[Act.put,aT,aZ,aS]
         refine tkW 19 67 (.string xk) hH (λw hSw=>?_) (λhH=>?_)
         ·have p9:=HX1'.out w hSw
          unfold runsTo
          go_simp
         try simp only[Act.put,aT,aZ,aS]
         refine tkV 20 68 (.slice (some ⟨z+2,0,none⟩) 3 3) hH (λhH=>?_)
         try simp only[Act.put,aT,aZ,aS]
         refine tkV 21 69 (.int .i64 (i:Nat)) hH (λhH=>?_)
         try simp only[Act.put,aT,aZ,aS]
         refine tkW 22 70 (.pointer (some ⟨z+2,iq,none⟩)) hH (λw hSw=>?_) (λhH=>?_)
         ·exact val_of (HI3.out w)
         try simp only[Act.put,aT,aZ,aS]
         refine tkV 23 71 (.pointer (some ⟨z+2,iq+3,none⟩)) hH (λhH=>?_)
         try simp only[Act.put,aT,aZ,aS]
         refine tkW 24 72 (.string xi) hH (λw hSw=>?_) (λhH=>?_)
         ·have p9:=HX0.out w hSw
          unfold runsTo
          go_simp
         try simp only[Act.put,aT,aZ,aS]
         refine tkW 25 73 (.bool true) hH (λw hSw=>?_) (λhH=>?_)
         ·have p9:=B3.out
          unfold runsTo
          go_simp
         try simp only[Act.put,aT,aZ,aS]
         refine tkV 26 74 (.bool true) hH (λhH=>?_)
         try simp only[Act.put,aT,aZ,aS]
         refine tkV 27 75 (.bool true) hH (λhH=>?_)
         try simp only[Act.put,aT,aZ,aS]
         refine tkV 28 76 (.slice (some ⟨z+3,0,none⟩) 3 3) hH (λhH=>?_)
         try simp only[Act.put,aT,aZ,aS]
         refine tkV 29 77 (.int .i64 (k:Nat)) hH (λhH=>?_)
         try simp only[Act.put,aT,aZ,aS]
         refine tkW 30 78 (.pointer (some ⟨z+3,kq,none⟩)) hH (λw hSw=>?_) (λhH=>?_)
         ·exact val_of (HJ2.out w)
         try simp only[Act.put,aT,aZ,aS]
         refine tkW 31 79 (.agg uk) hH (λw hSw=>?_) (λhH=>?_)
         ·exact val_of (HLK.out w hSw)
         try simp only[Act.put,aT,aZ,aS]
         refine tkV 32 80 (.slice (some ⟨z+3,0,none⟩) 3 3) hH (λhH=>?_)
         try simp only[Act.put,aT,aZ,aS]
         refine tkV 33 81 (.int .i64 (i:Nat)) hH (λhH=>?_)
         try simp only[Act.put,aT,aZ,aS]
         refine tkW 34 82 (.pointer (some ⟨z+3,iq,none⟩)) hH (λw hSw=>?_) (λhH=>?_)
         ·exact val_of (HI2.out w)
         try simp only[Act.put,aT,aZ,aS]
         refine tkW 35 83 (.agg u) hH (λw hSw=>?_) (λhH=>?_)
         ·exact val_of (HLA.out w hSw)
         try simp only[Act.put,aT,aZ,aS]
         refine tkC 36 (λK hK=>?_)
         change Oper.wp _ ⟨some 84,_,_,_,_,_⟩ _ _ _ _
         go_simp
         refine (HS2'.out _).mono ?_
         rintro e w2 ⟨rfl,hb2⟩
         have HN:=hid (HM.out.drew.on hb2)
         clear hb2 HS2'
         dsimp only
         refine hK.out _ _ HN.out (λhH=>?_)
         clear hK K
         try simp only[Act.put,aT,aZ,aS]
         refine tkV 37 85 (.bool (!b4)) hH (λhH=>?_)
         try simp only[Act.put,aT,aZ,aS]
         refine tkV 38 86 (.bool (!b4)) hH (λhH=>?_)
         try simp only[Act.put,aT,aZ,aS]
         refine⟨wpAnyH_done (by kernel_rfl) ?_ _⟩
         clear hH
         cases b4 with
         | true=>
          have h9:=HK3.out
          have HOX:=hid (HNX.out (λ_ _ _=>(sameB_true B4.out).symm))
          go_wp2_with fail
          go_roundw
          case rel=>exact⟨k+1,by have:=HKI.out;omega,by first | rfl | go_num,HN,HOX⟩
          case measure=>have:=HKI.out;simp[intOf];omega
         | false=>
          have HX:=hid (HNO.out i HLT.out (HBAD.out (λh=>by
           refine sameB_false B4.out (h ?_ ?_ ?_).symm
           ·rw[Hkk.out];exact eq_of_beq B1.out
           ·rw[Hxi.out]
            intro h2
            have h3:=B2.out
            rw[h2]at h3
            rw[ByteArray.toList_eq]at h3
            simp at h3
           ·rw[Hxk.out,Hxi.out]
            exact bytes_eq (by rw[←ByteArray.toList_eq,←ByteArray.toList_eq];exact eq_of_beq B3.out))) _ HN.out.hb)
          go_wp2_with fail
          go_ret
          exact HX.out
   ·have hkb:(kd != 0)=true:=by simp[hk0]
    have HKN:=hid (show (P.get i).kind≠0 from by rw[Hkd.out];exact hk0)
    obtain⟨b4,B4⟩:=name_itV (sameB (P.get i) (t.get i))
    rw[B4.out]at HS1'
    clear hi h3 hk0
    go_upto_region 7 with ((with_reducible refine at_dst (some 29) ?_);refine val_arm rfl (.pointer (some ⟨z+2,iq,none⟩)) (val_of (HI3.out _)) ?_)
    clear q4 e1 hkb
    refine wp_region_held_drew (S:=λW'=>RfM w z c1 c2 W') (by kernel_rfl) HM.out.drew (λhH=>?_)
    refine Boxed.out ?_
    refine tkV 0 33 (.slice (some ⟨z+2,0,none⟩) 3 3) hH (λhH=>?_)
    try simp only[Act.put,aT,aZ,aS]
    refine tkV 1 34 (.int .i64 (i:Nat)) hH (λhH=>?_)
    try simp only[Act.put,aT,aZ,aS]
    refine tkW 2 35 (.pointer (some ⟨z+2,iq,none⟩)) hH (λw hSw=>?_) (λhH=>?_)
    ·exact val_of (HI3.out w)
    try simp only[Act.put,aT,aZ,aS]
    refine tkW 3 36 (.agg v) hH (λw hSw=>?_) (λhH=>?_)
    ·exact val_of (HLB.out w hSw)
    try simp only[Act.put,aT,aZ,aS]
    refine tkV 4 37 (.slice (some ⟨z+3,0,none⟩) 3 3) hH (λhH=>?_)
    try simp only[Act.put,aT,aZ,aS]
    refine tkV 5 38 (.int .i64 (i:Nat)) hH (λhH=>?_)
    try simp only[Act.put,aT,aZ,aS]
    refine tkW 6 39 (.pointer (some ⟨z+3,iq,none⟩)) hH (λw hSw=>?_) (λhH=>?_)
    ·exact val_of (HI2.out w)
    try simp only[Act.put,aT,aZ,aS]
    refine tkW 7 40 (.agg u) hH (λw hSw=>?_) (λhH=>?_)
    ·exact val_of (HLA.out w hSw)
    try simp only[Act.put,aT,aZ,aS]
    refine tkC 8 (λK hK=>?_)
    change Oper.wp _ ⟨some 41,_,_,_,_,_⟩ _ _ _ _
    go_simp
    refine (HS1'.out _ HM.out.drew.hb).mono ?_
    rintro e w2 ⟨rfl,hb2⟩
    have HN:=hid (HM.out.drew.on hb2)
    clear hb2 HS1'
    dsimp only
    refine hK.out _ _ HN.out (λhH=>?_)
    clear hK K
    try simp only[Act.put,aT,aZ,aS]
    refine tkV 9 42 (.bool (!b4)) hH (λhH=>?_)
    try simp only[Act.put,aT,aZ,aS]
    refine⟨wpAnyH_done (by kernel_rfl) ?_ _⟩
    clear hH
    cases b4 with
    | true=>
     have HOX:=hid (show ∀e,e<i+1→okI P t e from λe he=>by
      by_cases h:e=i
      ·subst h
       exact⟨λ_=>(sameB_true B4.out).symm,λh0=>absurd h0 HKN.out⟩
      ·exact HOK.out e (by omega))
     have h9:=HLT.out
     go_wp2_with fail
     go_roundw
     case rel=>exact⟨i+1,by have:=HLT.out;omega,by first | rfl | go_num,HN,HOX⟩
     case measure=>have:=HLT.out;simp[intOf];omega
    | false=>
     have HX:=hid (HNO.out i HLT.out (λh=>sameB_false B4.out (h.1 HKN.out).symm) _ HN.out.hb)
     go_wp2_with fail
     go_ret
     exact HX.out
theorem idx_tr (ad:Addr) (n cap a:Nat) (ha:a<n) (w:World):(Instr.indexAt 22 (.slice (some ad) n cap) (.int .i64 (a:Nat))).run Tryz.prog w = .ok (.pointer (some (ad.add (a*18)))) w:=by
 have e1:(0:Int)≤a:=by omega
 have e2:(a:Int)<n:=by omega
 go_simp
theorem TrS.cells {w:World} {F:Nat→Prop} {L:List Trip} {A:Option Addr} {n:Nat} (h:SRd 18 TrS w F L A n) {k:Nat} {t:Trip} (ht:L[k]?=some t) :
    ∃ad c,A=some ad∧F ad.block∧CellT c t∧∀j,j<c.size→w.cell? ((ad.add (k*18)).add j)=c[j]?:=by
 obtain⟨ad,c,e,hF,hs,hc,hr⟩:=h.at_ ht
 exact⟨ad,c,e,hF,hr.cellT,λj hj=>by rw[add_of_add];exact hc j (by omega)⟩
section
variable {K T:List Trip} {i k:Nat} {t u:Trip}
end
end Go.Proofs.YtefhfadjajcmkaaGreatDoor
namespace Go.Proofs.YtefhfadjajcmkaaGreatDoor
open Go Go.RowKit
open Go.Lib (hid cell_of_heap)
def flatV (cs:Nat→Array Value) (n:Nat):List Value:=(List.range n).flatMap λi=>(cs i).toList
theorem flatV_succ (cs:Nat→Array Value) (n:Nat):flatV cs (n+1)=flatV cs n++(cs n).toList:=by unfold flatV;rw[List.range_succ];simp
theorem flatV_congr {cs ds:Nat→Array Value} {n:Nat} (h:∀i,i<n→cs i=ds i):flatV cs n=flatV ds n:=by
 induction n with
 | zero=>rfl
 | succ n ih=>rw[flatV_succ,flatV_succ,ih (λi hi=>h i (by omega)),h n (by omega)]
theorem flatV_length {cs:Nat→Array Value} {n:Nat} (h:∀i,i<n→(cs i).size=6):(flatV cs n).length=n*6:=by
 induction n with
 | zero=>rfl
 | succ n ih=>rw[flatV_succ,List.length_append,ih (λi hi=>h i (by omega))];simp[h n (by omega)];omega
theorem flatV_at {cs:Nat→Array Value} {n i j:Nat} (h:∀i,i<n→(cs i).size=6) (hi:i<n) (hj:j<6):(flatV cs n)[i*6+j]?=(cs i)[j]?:=by
 induction n with
 | zero=>omega
 | succ n ih=>
  rw[flatV_succ]
  have hl:=flatV_length (cs:=cs) (n:=n) (λi hi=>h i (by omega))
  by_cases he:i=n
  ·subst he
   rw[List.getElem?_append_right (by omega),hl,show i*6+j-i*6=j by omega]
   simp
  ·rw[List.getElem?_append_left (by omega)]
   exact ih (λi hi=>h i (by omega)) (by omega)
inductive VOwn (w:World):(Nat→Prop)→Val→Value→Prop where
 | mk (v:Val) (F:Nat→Prop) (s:Value) (cs:Nat→Array Value) (Fs:Nat→Nat→Prop) (hrow:w.ownsRow 0 39 6 s v.list.length (flatV cs v.list.length)) (h6:∀i,i<v.list.length→(cs i).size=6)
     (hF:∀g,s.ownBlock=some g→F g) (hFs:∀i b,i<v.list.length→Fs i b→F b∧s.ownBlock≠some b) (hdis:∀i j b,i<v.list.length→j<v.list.length→i≠j→Fs i b→¬Fs j b)
     (hr:∀i x,v.list[i]?=some x→VOwn w (Fs i) x (.agg (cs i))):VOwn w F v (.agg (cellsV v s))
def LOwn (w:World) (F:Nat→Prop) (l:List Val) (s:Value):Prop:=
 ∃(cs:Nat→Array Value) (Fs:Nat→Nat→Prop),w.ownsRow 0 39 6 s l.length (flatV cs l.length)∧(∀i,i<l.length→(cs i).size=6)∧(∀g,s.ownBlock=some g→F g) ∧
  (∀i b,i<l.length→Fs i b→F b∧s.ownBlock≠some b)∧(∀i j b,i<l.length→j<l.length→i≠j→Fs i b→¬Fs j b)∧∀i x,l[i]?=some x→VOwn w (Fs i) x (.agg (cs i))
section
variable {w w':World} {F F':Nat→Prop} {v:Val} {u s:Value} {l:List Val}
theorem VOwn.inv (h:VOwn w F v u):∃s,u = .agg (cellsV v s)∧LOwn w F v.list s:=by
 cases h with
 | mk _ _ s cs Fs hrow h6 hF hFs hdis hr=>exact⟨s,rfl,cs,Fs,hrow,h6,hF,hFs,hdis,hr⟩
theorem VOwn.of_list (h:LOwn w F v.list s):VOwn w F v (.agg (cellsV v s)):=by
 obtain⟨cs,Fs,hrow,h6,hF,hFs,hdis,hr⟩:=h
 exact .mk v F s cs Fs hrow h6 hF hFs hdis hr
theorem VOwn.turn (h:VOwn w F v u) {S:Nat→Prop} (ht:Turn S w w') (hS:∀b,F b→¬S b):VOwn w' F v u:=by
 induction h with
 | mk v F s cs Fs hrow h6 hF hFs hdis hr ih=>
  exact .mk v F s cs Fs (ht.owns hrow (λg hg=>hS g (hF g hg))) h6 hF hFs hdis (λi x hx=>ih i x hx (λb hb=>hS b (hFs i b (by
   rcases Nat.lt_or_ge i v.list.length with h | h
   ·exact h
   ·rw[List.getElem?_eq_none h]at hx;cases hx) hb).1))
theorem VOwn.mono (h:VOwn w F v u) (hF:∀b,F b→F' b):VOwn w F' v u:=by
 cases h with
 | mk _ _ s cs Fs hrow h6 hF0 hFs hdis hr=>exact .mk v F' s cs Fs hrow h6 (λg hg=>hF g (hF0 g hg)) (λi b hi hb=>⟨hF b (hFs i b hi hb).1,(hFs i b hi hb).2⟩) hdis hr
theorem LOwn.turn (h:LOwn w F l s) {S:Nat→Prop} (ht:Turn S w w') (hS:∀b,F b→¬S b):LOwn w' F l s:=by
 obtain⟨cs,Fs,hrow,h6,hF,hFs,hdis,hr⟩:=h
 refine⟨cs,Fs,ht.owns hrow (λg hg=>hS g (hF g hg)),h6,hF,hFs,hdis,λi x hx=>(hr i x hx).turn ht (λb hb=>hS b (hFs i b (by
     rcases Nat.lt_or_ge i l.length with h | h
     ·exact h
     ·rw[List.getElem?_eq_none h]at hx;cases hx) hb).1)⟩
theorem LOwn.mono (h:LOwn w F l s) (hF:∀b,F b→F' b):LOwn w F' l s:=by
 obtain⟨cs,Fs,hrow,h6,hF0,hFs,hdis,hr⟩:=h
 exact⟨cs,Fs,hrow,h6,λg hg=>hF g (hF0 g hg),λi b hi hb=>⟨hF b (hFs i b hi hb).1,(hFs i b hi hb).2⟩,hdis,hr⟩
theorem LOwn.nil (w:World) (F:Nat→Prop):LOwn w F [] (.slice none 0 0):=
 ⟨λ_=>#[],λ_ _=>False,World.ownsRow_nil _ _ _ _,(λ_ hi=>absurd hi (Nat.not_lt_zero _)),(λg hg=>by cases hg),(λ_ _ hi=>absurd hi (Nat.not_lt_zero _)),(λ_ _ _ hi=>absurd hi (Nat.not_lt_zero _)),(λi x hx=>by simp at hx)⟩
theorem LOwn.form (h:LOwn w F l s):∃A cap,s = .slice A l.length cap:=by
 obtain⟨cs,Fs,hrow,_⟩:=h
 rcases hrow.2 with⟨rfl,h0⟩ | ⟨g,cp,cur,rfl,_⟩
 ·exact⟨none,0,by rw[h0]⟩
 ·exact⟨_,cp,rfl⟩
theorem own_cap {base e size:Nat} {A:Option Addr} {n cap:Nat} {xs:List Value} (h:w.ownsRow base e size (.slice A n cap) n xs):n≤cap:=by
 rcases h.2 with⟨h0,h1⟩ | ⟨g,cp,cur,h0,_,_,h1,_⟩
 ·injection h0 with _ h2 h3;omega
 ·injection h0 with _ _ h3;omega
theorem rd_row {cs:Nat→Array Value} {A:Option Addr} {cap:Nat} (hrow:w.ownsRow 0 39 6 (.slice A l.length cap) l.length (flatV cs l.length)) (h6:∀i,i<l.length→(cs i).size=6) (hF:∀g,(Value.slice A l.length cap).ownBlock=some g→F g)
    (hr:∀i x,l[i]?=some x→VRd w F x (.agg (cs i))):LRd w F l A l.length:=by
 refine⟨rfl,λhn=>?_⟩
 obtain⟨g,cp,hv,_,_⟩:=hrow.form hn
 injection hv with hv _ hcp
 subst hv
 subst hcp
 refine⟨⟨g,0,none⟩,rfl,hF g rfl,λi x hx=>?_⟩
 have hi:i<l.length:=by
  rcases Nat.lt_or_ge i l.length with h | h
  ·exact h
  ·rw[List.getElem?_eq_none h]at hx;cases hx
 refine⟨cs i,h6 i hi,λj hj=>?_,hr i x hx⟩
 have h1:=hrow.cellAt (i*6+j) (by omega)
 rw[flatV_at h6 hi hj]at h1
 rw[←h1]
 unfold Addr.add
 split<;>simp_all
theorem VOwn.rd (h:VOwn w F v u):VRd w F v u:=by
 induction h with
 | mk v F s cs Fs hrow h6 hF hFs hdis hr ih=>
  obtain⟨A,cap,rfl⟩:∃A cap,s = .slice A v.list.length cap:=by
   rcases hrow.2 with⟨rfl,h0⟩ | ⟨g,cp,cur,rfl,_⟩
   ·exact⟨none,0,by rw[h0]⟩
   ·exact⟨_,cp,rfl⟩
  exact .of_list (own_cap hrow) (rd_row hrow h6 hF (λi x hx=>(ih i x hx).mono (λb hb=>(hFs i b (by
   rcases Nat.lt_or_ge i v.list.length with h | h
   ·exact h
   ·rw[List.getElem?_eq_none h]at hx;cases hx) hb).1)))
theorem LOwn.rd (h:LOwn w F l s):∃A cap,s = .slice A l.length cap∧l.length≤cap∧LRd w F l A l.length:=by
 obtain⟨A,cap,rfl⟩:=h.form
 obtain⟨cs,Fs,hrow,h6,hF,hFs,_,hr⟩:=h
 exact⟨A,cap,rfl,own_cap hrow,rd_row hrow h6 hF (λi x hx=>(hr i x hx).rd.mono (λb hb=>(hFs i b (by
     rcases Nat.lt_or_ge i l.length with h | h
     ·exact h
     ·rw[List.getElem?_eq_none h]at hx;cases hx) hb).1))⟩
theorem own_snoc {w5 w6:World} {F G:Nat→Prop} {l:List Val} {x:Val} {s sx:Value} {g4 c4:Nat} {cs:Nat→Array Value} {Fs:Nat→Nat→Prop}
    (h6:∀i,i<l.length→(cs i).size=6) (hF:∀g,s.ownBlock=some g→F g) (hFs:∀i b,i<l.length→Fs i b→F b∧s.ownBlock≠some b) (hdis:∀i j b,i<l.length→j<l.length→i≠j→Fs i b→¬Fs j b)
    (hr:∀i y,l[i]?=some y→VOwn w5 (Fs i) y (.agg (cs i))) (hx:LOwn w5 G x.list sx) (hFG:∀b,F b→¬G b) (hFl:∀b,F b→b<w5.heap.size) (hGl:∀b,G b→b<w5.heap.size)
    (ho:w6.ownsRow 0 39 6 (.slice (some ⟨g4,0,none⟩) (l.length+1) c4) (l.length+1) (flatV cs l.length++(cellsV x sx).toList)) (hg:w5.grownBy w6 s.ownBlock) (hl:s.ownBlock=some g4∨w5.heap.size≤g4) :
    LOwn w6 (λb=>F b∨G b∨b=g4) (l++[x]) (.slice (some ⟨g4,0,none⟩) (l.length+1) c4):=by
 have hlen:(l++[x]).length=l.length+1:=by simp
 have hcs:∀i,i<l.length→(λi=>if i<l.length then cs i else cellsV x sx) i=cs i:=λi hi=>if_pos hi
 have hFn:∀i b,i<l.length→Fs i b→b≠g4:=λi b hi hb e=>by
  obtain⟨h1,h2⟩:=hFs i b hi hb
  rcases hl with h | h
  ·exact h2 (by rw[h,e])
  ·have:=hFl b h1;omega
 have hGn:∀b,G b→b≠g4:=λb hb e=>by
  rcases hl with h | h
  ·exact hFG b (by rw[e];exact hF g4 h) hb
  ·have:=hGl b hb;omega
 refine⟨λi=>if i<l.length then cs i else cellsV x sx,λi=>if i<l.length then Fs i else G,?_,λi hi=>?_,λg hg'=>?_,λi b hi hb=>?_,λi j b hi hj hne hb hb'=>?_,λi y hy=>?_⟩
 ·rw[hlen,flatV_succ,flatV_congr hcs,if_neg (Nat.lt_irrefl _)]
  exact ho
 ·by_cases h:i<l.length
  ·simp only[if_pos h];exact h6 i h
  ·simp only[if_neg h];rfl
 ·injection hg' with hg'
  exact .inr (.inr hg'.symm)
 ·by_cases h:i<l.length
  ·simp only[if_pos h]at hb
   exact⟨.inl (hFs i b h hb).1,λe=>by injection e with e;exact hFn i b h hb e.symm⟩
  ·simp only[if_neg h]at hb
   exact⟨.inr (.inl hb),λe=>by injection e with e;exact hGn b hb e.symm⟩
 ·by_cases h:i<l.length
  ·simp only[if_pos h]at hb
   by_cases h':j<l.length
   ·simp only[if_pos h']at hb'
    exact hdis i j b h h' hne hb hb'
   ·simp only[if_neg h']at hb'
    exact hFG b (hFs i b h hb).1 hb'
  ·simp only[if_neg h]at hb
   by_cases h':j<l.length
   ·simp only[if_pos h']at hb'
    exact hFG b (hFs j b h' hb').1 hb
   ·omega
 ·by_cases h:i<l.length
  ·simp only[if_pos h]
   rw[List.getElem?_append_left h]at hy
   exact (hr i y hy).turn (Turn.of_grown hg) (λb hb e=>(hFs i b h hb).2 e.symm)
  ·simp only[if_neg h]
   have hi:i=l.length:=by
    rcases Nat.lt_or_ge i (l++[x]).length with h1 | h1
    ·omega
    ·rw[List.getElem?_eq_none h1]at hy;cases hy
   subst hi
   simp at hy
   subst hy
   exact (VOwn.of_list hx).turn (Turn.of_grown hg) (λb hb e=>hFG b (hF b e.symm) hb)
end
structure PairD where
 key:ByteArray
 v:Val
structure NodeD where
 id:Int
 labels:List ByteArray
 props:List PairD
structure EdgeD where
 id:Int
 src:Int
 dst:Int
 type:ByteArray
 props:List PairD
structure GraphD where
 nodes:List NodeD
 edges:List EdgeD
def cellsP (p:PairD) (s:Value):Array Value:=#[.string p.key,.int .i64 p.v.kind,.bool p.v.truth,.int .i64 p.v.num,.string p.v.text,.string p.v.extra,s]
def PaR:Lies PairD:=λw F p c=>∃s,c=cellsP p s∧VRd w F p.v (.agg (cellsV p.v s))
theorem PaR.good:PaR.Good:=⟨fun⟨s,e,h⟩ hk=>⟨s,e,h.keep hk⟩,fun⟨s,e,h⟩ hF=>⟨s,e,h.mono hF⟩⟩
def NoR:Lies NodeD:=λw F n c=>∃L P,c=#[.int .i64 n.id,L,P]∧SlR 1 TxR w F n.labels L∧SlR 7 PaR w F n.props P
theorem NoR.good:NoR.Good:=⟨fun⟨L,P,e,h1,h2⟩ hk=>⟨L,P,e,h1.keep TxR.good hk,h2.keep PaR.good hk⟩,fun⟨L,P,e,h1,h2⟩ hF=>⟨L,P,e,h1.mono TxR.good hF,h2.mono PaR.good hF⟩⟩
def EdR:Lies EdgeD:=λw F e c=>∃P,c=#[.int .i64 e.id,.int .i64 e.src,.int .i64 e.dst,.string e.type,P]∧SlR 7 PaR w F e.props P
theorem EdR.good:EdR.Good:=⟨fun⟨P,e,h⟩ hk=>⟨P,e,h.keep PaR.good hk⟩,fun⟨P,e,h⟩ hF=>⟨P,e,h.mono PaR.good hF⟩⟩
def GrR (w:World) (F:Nat→Prop) (g:GraphD) (u:Value):Prop:=∃N E,u = .agg #[N,E]∧SlR 3 NoR w F g.nodes N∧SlR 5 EdR w F g.edges E
section
variable {w w':World} {F F':Nat→Prop} {g:GraphD} {u:Value}
theorem GrR.keep (h:GrR w F g u) (hk:∀p:Addr,F p.block→w'.cell? p=w.cell? p):GrR w' F g u:=by
 obtain⟨N,E,e,h1,h2⟩:=h
 exact⟨N,E,e,h1.keep NoR.good hk,h2.keep EdR.good hk⟩
theorem GrR.mono (h:GrR w F g u) (hF:∀g,F g→F' g):GrR w F' g u:=by
 obtain⟨N,E,e,h1,h2⟩:=h
 exact⟨N,E,e,h1.mono NoR.good hF,h2.mono EdR.good hF⟩
theorem GrR.under {B:Nat} (h:GrR w F g u) (hb:Below B w w') (hF:∀g,F g→g<B):GrR w' F g u:=h.keep λ_ hp=>hb.cell (hF _ hp)
end
end Go.Proofs.YtefhfadjajcmkaaGreatDoor
