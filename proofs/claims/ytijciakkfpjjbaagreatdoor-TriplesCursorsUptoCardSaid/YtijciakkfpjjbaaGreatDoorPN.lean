/- TriplesCursors answers true where what it reads is of bulk at most 1048576: any triples, any order, anything asked of a cursor: levels, values, every answer are the document's; no other condition. -/
import Derived.Test.YtijciakkfpjjbaaGreatDoorPM
import Derived.Test.YtijciakkfpjjbaaGreatDoorPH
import Derived.Test.YtijciakkfpjjbaaGreatDoorP3
import Derived.Test.YtijciakkfpjjbaaGreatDoorBulk
import Derived.Deep.Slices
import Derived.Lib.SmallJoins
import Derived.Test.YtijciakkfpjjbaaGreatDoorCards
import Derived.Test.YtijciakkfpjjbaaGreatDoorTie
import Derived.ProofKit
import Derived.OpenShut
import Derived.ChangeSame
import Derived.Carry
import Derived.Lay
import Derived.LaidOnce
import Derived.SevenTiedAt
import Derived.Deep.DeepHandedRow
import Derived.Shelf.Vars
import Derived.Stop.LaidErr
import Derived.Lib.LaidTab
set_option linter.unusedVariables false
set_option linter.unusedSimpArgs false
namespace Go.Proofs.YtijciakkfpjjbaaGreatDoor
open Go Go.RowKit Go.Maps
open Go.Lib (hid cell_of_heap)
theorem RcRd.f4 {F:Nat→Prop} {wx:World} {q j:Nat} {T:List Trip} {c:CurA} (h:RcRd F wx q j T c):wx.cell? ⟨q,4,none⟩=some (.int .i64 (c.way.length:Nat)):=by
 obtain⟨A,nT,cA,W,h⟩:=h
 exact h.f4
theorem CurRd.d3 {F:Nat→Prop} {wx:World} {q j:Nat} {T:List Trip} {c:CurA} (h:CurRd F wx q j T c):c.way.length≤3:=by
 obtain⟨cc,ix,cs,S,s,at_,en,hw,hn⟩:=h
 exact hn.d3
structure CcM (Gs Fs:Nat→Prop) (w0:World) (q1 q2 j:Nat) (T:List Trip) (c d:CurA) (wx:World):Prop where
 b:Below w0.heap.size w0 wx
 c1:CurRd Gs wx q1 j T c
 c2:RcRd Fs wx q2 j T d
 l1:w0.heap.size≤q1
 l2:q1<q2
 g:∀b,Gs b→b<w0.heap.size
 f:∀b,Fs b→b<w0.heap.size
section
variable {Gs Fs:Nat→Prop} {w0 wx w':World} {q1 q2 j:Nat} {T:List Trip} {c d c' d':CurA}
theorem CcM.on (h:CcM Gs Fs w0 q1 q2 j T c d wx) (hb:Below wx.heap.size wx w'):CcM Gs Fs w0 q1 q2 j T c d w':=⟨h.b.trans (hb.mono h.b.size),h.c1.on hb,h.c2.on hb,h.l1,h.l2,h.g,h.f⟩
theorem CcM.do1 (h:CcM Gs Fs w0 q1 q2 j T c d wx) (hc:CurRd Gs w' q1 j T c') (ht:Turn (λb=>b=q1) wx w'):CcM Gs Fs w0 q1 q2 j T c' d w':=
 ⟨below_turn h.b ht (λb hb=>by have hb:b=q1:=hb;rw[hb];exact h.l1),hc,h.c2.turn ht (λb hb=>by have hb:b=q1:=hb;subst hb;exact⟨h.l2,λhf=>by have:=h.f _ hf;have:=h.l1;omega⟩),h.l1,h.l2,h.g,h.f⟩
theorem CcM.do2 (h:CcM Gs Fs w0 q1 q2 j T c d wx) (hd:RcRd Fs w' q2 j T d') (ht:Turn (λb=>q2≤b) wx w'):CcM Gs Fs w0 q1 q2 j T c d' w':=
 ⟨below_turn h.b ht (λb hb=>by have hb:q2≤b:=hb;have:=h.l1;have:=h.l2;omega),h.c1.turn ht (λb hb e=>by have e:q2≤b:=e;have:=h.g b hb;have:=h.l1;have:=h.l2;omega) (λe=>by have e:q2≤q1:=e;have:=h.l2;omega),hd,h.l1,h.l2,h.g,h.f⟩
end
def KeyIn (T:List Trip) (j:Nat) (c:CurA):Prop:=∀v,v∈c.way→KeyV v
theorem keyIn_key {T:List Trip} {j:Nat} {c:CurA} (h:KeyIn T j c):KeyV ((keyA c).getD valZ):=by
 unfold keyA
 split
 ·exact keyV_Z
 ·cases hl:c.way.getLast? with
  | none=>exact keyV_Z
  | some x=>exact h x (List.mem_of_getLast? hl)
theorem keyIn_open {T:List Trip} {j:Nat} {c:CurA} (h:KeyIn T j c) (hT:∀t,t∈T→ScalT t) (hf:∀t,t∈T→∀n,FitV (t.get n)):KeyIn T j (openA T (wayN j) c).1:=by
 unfold openA
 split
 ·exact h
 ·split
  ·exact h
  ·rename_i x r hk
   intro v hv
   rcases List.mem_append.1 hv with hv | hv
   ·exact h v hv
   ·rw[List.mem_singleton]at hv
    subst hv
    exact keyV_of hT hf (pre:=c.way) (by rw[hk];exact List.mem_cons_self)
theorem keyIn_up {T:List Trip} {j:Nat} {c:CurA} (h:KeyIn T j c):KeyIn T j (upA c).1:=by
 unfold upA
 split
 ·exact h
 ·exact λv hv=>h v (List.dropLast_subset _ hv)
theorem keyIn_to {T:List Trip} {j:Nat} {c:CurA} (h:KeyIn T j c) (hT:∀t,t∈T→ScalT t) (hf:∀t,t∈T→∀n,FitV (t.get n)) (strict:Bool) (v:Val):KeyIn T j (toA T (wayN j) strict v c).1:=by
 unfold toA
 split
 ·exact h
 ·split
  ·exact h
  ·split
   ·rename_i x hx
    intro u hu
    rcases List.mem_append.1 hu with hu | hu
    ·exact h u (List.dropLast_subset _ hu)
    ·rw[List.mem_singleton]at hu
     subst hu
     exact keyV_of hT hf (List.mem_of_find?_eq_some hx)
   ·exact h
theorem keyIn_next {T:List Trip} {j:Nat} {c:CurA} (h:KeyIn T j c) (hT:∀t,t∈T→ScalT t) (hf:∀t,t∈T→∀n,FitV (t.get n)):KeyIn T j (nextA T (wayN j) c).1:=by
 unfold nextA
 split
 ·exact h
 ·split
  ·exact h
  ·exact keyIn_to h hT hf _ _
def CcS2 (Gs Fs:Nat→Prop) (w0:World) (q1 q2 j:Nat) (T:List Trip) (s11 s12:Value) (wx:World):Prop:=∃c rb,s11 = .bool rb∧s12 = .bool rb∧CcM Gs Fs w0 q1 q2 j T c c wx∧KeyIn T j c
theorem build55 (A:Option Addr) (n cp:Nat) (s:ByteArray) (W:World):(Instr.build 55 #[(0,.slice A n cp),(1,.string s)]).run Tryz.prog W = .ok (.agg #[.slice A n cp,.string s,.slice none 0 0,.bool false,.int .i64 0]) W:=by kernel_rfl
set_option maxRecDepth 100000 in
set_option maxHeartbeats 32000000 in
theorem cursors_any (L:List Trip) (hok:∀t,t∈L→OkT t) (D:List (Int×Val)) (hfd:∀o,o∈D→FitV o.2) (F:Nat→Prop) (A1 A2 A3:Option Addr) (nL nP nD c1 c2 c3:Nat) (ord:ByteArray) (w:World) (hF:∀b,F b→b<w.heap.size)
    (hL:SRd 18 TrR w F L A1 nL) (hD:SRd 7 OpR w F D A3 nD) (hnL:nL≤1000000000) (hnD:nD≤1000000000) (hgb:GlobB w) (hgt:GlobT w) :
    Calls Tryz.prog 4 #[.agg #[.slice A1 nL c1,.slice A2 nP c2,.string ord,.slice A3 nD c3]] w (ToldB true w):=by
 have HG:=hid (And.intro hgb hgt)
 have HLD:=hid (λ(W:World) (hb:Below w.heap.size w W)=>loadT_any L hok F A1 nL c1 W (λb h=>Nat.lt_of_lt_of_le (hF b h) hb.size) (hL.under TrR.good hb hF) hnL (glob_under hgb hb) (globT_under hgt hb))
 have HRL:=hid (λ(W:World) (hb:Below w.heap.size w W)=>refLoad_any L hok (cp:=c1) (hL.under TrR.good hb hF) (λb h=>Nat.lt_of_lt_of_le (hF b h) hb.size) hnL)
 have HDD:=hid (λ(W:World) (hb:Below w.heap.size w W)=>hD.under OpR.good hb hF)
 have HDL:=hid hD.1
 have HFD:=hid hfd
 have HW:=hid (λ(W:World) (hb:Below w.heap.size w W)=>(wakes5_any W (glob_under hgb hb) (globT_under hgt hb)).mono (λe w' (h:e = .returned (.bool true)∧Below W.heap.size W w')=>(⟨h.1,hb.trans (h.2.mono hb.size)⟩:e = .returned (.bool true)∧Below w.heap.size w w')))
 have HF:=hid hF
 clear hL hD hok hfd hgb hgt hF
 obtain⟨z,HZ⟩:=name_itV w.heap.size
 obtain⟨w1,HW1⟩:=name_itV (w.alloc (.cells #[.slice A1 nL c1,.slice A2 nP c2,.string ord,.slice A3 nD c3] 49))
 have HB1:=hid (show Below w.heap.size w w1 from by rw[←HW1.out];exact (Below.refl _ _).alloc (Nat.le_refl _) _)
 have HK1:=hid (show w1.heap[z]?=some (.cells #[.slice A1 nL c1,.slice A2 nP c2,.string ord,.slice A3 nD c3] 49 (0,0)) from by rw[←HW1.out,←HZ.out];exact heap_alloc_new w _)
 have b0:w1.cell? ⟨z,0,none⟩=some (.slice A1 nL c1):=cell_of_heap HK1.out 0
 go_enter Tryz.func4,Tryz.ntmps4
 go_upto_region 1 with fail
 rw[HW1.out,HZ.out]
 clear HW1
 by_cases hbig:60<nL
 ·have e1:(60:Int)<nL:=by omega
  go_wp2_with fail
  refine (HW.out _ HB1.out).mono ?_
  rintro e w9 ⟨rfl,hb9⟩
  have HB9:=hid hb9
  clear hb9
  go_wp2_with fail
  go_ret
  exact⟨rfl,HB9.out⟩
 ·have e1:¬(60:Int)<nL:=by omega
  go_wp2_with fail
  refine (HLD.out w1 HB1.out).mono ?_
  rintro e w2 (⟨hno,rfl,hb⟩ | ⟨h65,hall,c,rfl,hb,hs⟩)
  ·have HB2:=hid (HB1.out.trans (hb.mono HB1.out.size))
   have HNO:=hid hno
   have HK2:=hid ((hb.block z (blk_lt HK1.out)).trans HK1.out)
   have b0':w2.cell? ⟨z,0,none⟩=some (.slice A1 nL c1):=cell_of_heap HK2.out 0
   clear hb b0 hno
   go_wp2_with fail
   refine (HRL.out w2 HB2.out).mono ?_
   rintro e w3 (⟨_,rfl,hb⟩ | ⟨h65,hall,_⟩)
   ·have HB3:=hid (HB2.out.trans (hb.mono HB2.out.size))
    clear hb b0'
    go_wp2_with fail
    refine (HW.out _ HB3.out).mono ?_
    rintro e w9 ⟨rfl,hb9⟩
    have HB9:=hid hb9
    clear hb9
    go_wp2_with fail
    go_ret
    exact⟨rfl,HB9.out⟩
   ·exact absurd ⟨h65,hall⟩ HNO.out
  ·have HB2:=hid (HB1.out.trans (hb.mono HB1.out.size))
   have HYES:=hid (And.intro h65 hall)
   have HK2:=hid ((hb.block z (blk_lt HK1.out)).trans HK1.out)
   obtain⟨Gs,HGN⟩:=name_itV (λb=>w1.heap.size≤b∧b<w2.heap.size)
   rw[HGN.out]at hs
   have HFL:=hid (show ∀b,Gs b→b<w2.heap.size from by rw[←HGN.out];exact λb h=>h.2)
   obtain⟨T,HT⟩:=name_itV (loadR (along (wayN 0)) L)
   rw[HT.out]at hs
   have HS2:=hid hs
   have b0':w2.cell? ⟨z,0,none⟩=some (.slice A1 nL c1):=cell_of_heap HK2.out 0
   clear hs hb b0 HGN e1 hbig h65 hall
   go_wp2_with fail
   refine (HRL.out w2 HB2.out).mono ?_
   rintro e w3 (⟨hno,_,_⟩ | ⟨_,_,v5,rfl,hown,hb⟩)
   ·exact absurd HYES.out hno
   ·have HB23:=hid hb
    have HB3:=hid (HB2.out.trans (hb.mono HB2.out.size))
    have HK3:=hid ((hb.block z (blk_lt HK2.out)).trans HK2.out)
    have HS3:=hid (HS2.out.keep λb hb2=>hb.block b (HFL.out b hb2))
    rw[HT.out]at hown
    obtain⟨Fs,HFN⟩:=name_itV (λb=>w2.heap.size≤b∧b<w3.heap.size)
    obtain⟨A5,c5,e5,_,hr5⟩:=hown.rd TrR.good
    rw[HFN.out]at hr5
    obtain⟨nT,HNT⟩:=name_itV T.length
    rw[HNT.out]at e5 hr5
    subst e5
    have HFS:=hid (show ∀b,Fs b→b<w3.heap.size from by rw[←HFN.out];exact λb h=>h.2)
    have HR5:=hid hr5
    have HFL3:=hid (λb (h:Gs b)=>Nat.lt_of_lt_of_le (HFL.out b h) HB23.out.size)
    have HSC:=hid HS3.out.scal
    have HFT:=hid HS3.out.fit
    have HKT:=hid (λt (ht:t∈T)=>keyT_of (HSC.out t ht) (HFT.out t ht))
    have b2:w3.cell? ⟨z,2,none⟩=some (.string ord):=cell_of_heap HK3.out 2
    clear hown hr5 hb b0' HFN HT HYES
    obtain⟨ob,Hob⟩:=name_itV (ordB ord)
    cases ob with
    | false=>
     go_wp2_with fail
     refine (cursor_none ord Hob.out c _).mono ?_
     rintro e w4 ⟨rfl,hb⟩
     have HB4:=hid (HB3.out.trans (hb.mono HB3.out.size))
     have HK4:=hid ((hb.block z (blk_lt HK3.out)).trans HK3.out)
     have b2':w4.cell? ⟨z,2,none⟩=some (.string ord):=cell_of_heap HK4.out 2
     have hmo:=mayOrder_any ord w4
     rw[Hob.out]at hmo
     clear hb b2
     go_wp2_with fail
     refine hmo.mono ?_
     unfold ToldB
     rintro e w5 ⟨rfl,hb⟩
     have HB5:=hid (HB4.out.trans (hb.mono HB4.out.size))
     clear hb b2' hmo
     go_wp2_with fail
     refine (HW.out _ HB5.out).mono ?_
     rintro e w9 ⟨rfl,hb9⟩
     have HB9:=hid hb9
     clear hb9
     go_wp2_with fail
     go_ret
     exact⟨rfl,HB9.out⟩
    | true=>
     obtain⟨j,hj,ej⟩:=ordB_iff.1 Hob.out
     subst ej
     have HJ:=hid hj
     clear hj
     go_wp2_with fail
     refine (cursor_any HS3.out HFL3.out j HJ.out).mono ?_
     rintro e w4 ⟨q1,rfl,hc1,hb,hq1⟩
     have HB4:=hid hb
     have HC4:=hid hc1
     have HQ1:=hid hq1
     have HK4:=hid ((hb.block z (blk_lt HK3.out)).trans HK3.out)
     have b2':w4.cell? ⟨z,2,none⟩=some (.string (wayT j)):=cell_of_heap HK4.out 2
     have hmo:=mayOrder_any (wayT j) w4
     rw[Hob.out]at hmo
     clear hc1 hb hq1 b2
     go_wp2_with fail
     refine hmo.mono ?_
     unfold ToldB
     rintro e w5 ⟨rfl,hb⟩
     have HB5:=hid (HB4.out.trans (hb.mono HB4.out.size))
     have HC5:=hid (HC4.out.on hb)
     have HK5:=hid ((hb.block z (blk_lt HK4.out)).trans HK4.out)
     have HQ5:=hid (show q1<w5.heap.size from Nat.lt_of_lt_of_le HC4.out.lt hb.size)
     have b2'':w5.cell? ⟨z,2,none⟩=some (.string (wayT j)):=cell_of_heap HK5.out 2
     clear hb hmo b2' HC4
     obtain⟨q2,Hq2⟩:=name_itV w5.heap.size
     obtain⟨w6,Hw6⟩:=name_itV (w5.alloc (.cells #[.slice A5 nT c5,.string (wayT j),.slice none 0 0,.bool false,.int .i64 0] 55))
     have HB6:=hid (show Below w5.heap.size w5 w6 from by rw[←Hw6.out];exact (Below.refl _ _).alloc (Nat.le_refl _) _)
     have HX6:=hid (show w6.heap[q2]?=some (.cells #[.slice A5 nT c5,.string (wayT j),.slice none 0 0,.bool false,.int .i64 0] 55 (0,0)) from by rw[←Hw6.out,←Hq2.out];exact heap_alloc_new w5 _)
     have HCC:=hid (show CcM Gs Fs w3 q1 q2 j T ⟨[],false⟩ ⟨[],false⟩ w6 from by
      have hb36:=HB5.out.trans (HB6.out.mono HB5.out.size)
      have hw5:w3.heap.size≤q2:=by have:=HB5.out.size;have h2:w5.heap.size=q2:=Hq2.out;omega
      exact⟨hb36,HC5.out.on HB6.out,⟨A5,nT,c5,.slice none 0 0,HX6.out,HR5.out.under TrR.good hb36 HFS.out,POwn.nil ..,(λb h=>by cases h),λb h=>Nat.lt_of_lt_of_le (HFS.out b h) hw5⟩,HQ1.out,by have:=HQ5.out;have h2:w5.heap.size=q2:=Hq2.out;omega,HFL3.out,HFS.out⟩)
     have HK6:=hid ((HB6.out.block z (blk_lt HK5.out)).trans HK5.out)
     have HB36:=hid HCC.out.b
     have HZ6:=hid (λ(W:World) (hb:Below w3.heap.size w3 W)=>(hb.block z (blk_lt HK3.out)).trans HK3.out)
     have HBD:=hid (λW:World=>build55 A5 nT c5 (wayT j) W)
     have HRC:=hid (show RcH T j from ⟨HJ.out,HKT.out,HSC.out,HS3.out.len⟩)
     have HGG:=hid (λ(W:World) (hb:Below w3.heap.size w3 W)=>And.intro (glob_under HG.out.1 (HB3.out.trans (hb.mono HB3.out.size))) (globT_under HG.out.2 (HB3.out.trans (hb.mono HB3.out.size))))
     clear HX6
     go_upto_region 13 with ((with_reducible refine at_dst (some 80) ?_);refine build_arm rfl 55 _ rfl #[(0,.slice A5 nT c5),(1,.string (wayT j))] (by kernel_rfl) (.agg #[.slice A5 nT c5,.string (wayT j),.slice none 0 0,.bool false,.int .i64 0]) (HBD.out _) ?_)
     rw[Hw6.out,Hq2.out]
     clear Hw6 b2''
     go_wp2_with fail
     go_loopw [10] (λs10 wx=>∃i:Nat,i≤nD∧i≤60∧s10 = .int .i64 (i:Nat)∧Hid (∃c,CcM Gs Fs w3 q1 q2 j T c c wx∧KeyIn T j c)) (λs10 _=>nD-(intOf s10).toNat)
     case atStart=>exact⟨0,by omega,by omega,rfl,hid ⟨_,HCC.out,λv hv=>by cases hv⟩⟩
     case round=>
      obtain⟨i,hi,hi60,rfl,hM0⟩:=hrel
      obtain⟨cc,hcm,hki⟩:=hM0.out
      have hM:=hid hcm
      have HKI:=hid hki
      clear hM0 hcm hki HCC
      have bz:wr.cell? ⟨z,3,none⟩=some (.slice A3 nD c3):=cell_of_heap (HZ6.out wr hM.out.b) 3
      by_cases hlt:i<nD∧i<60
      ·have a0:(0:Int)≤i:=by omega
       have a1:(i:Int)<nD:=by omega
       have a2:(i:Int)<60:=by omega
       have HWI:=hid (show IntKind.i64.wrap ((i:Int)+1)=(i:Int)+1 from IntWalk.i64_in _ (by omega))
       obtain⟨o,hoD⟩:∃o,D[i]?=some o:=⟨D[i]'(by rw[←HDL.out];exact hlt.1),List.getElem?_eq_getElem _⟩
       obtain⟨ad,sv,eA3,hfa,hkd,hcv,_⟩:=OpR.cells (HDD.out w3 HB3.out) hoD
       subst eA3
       have HFO:=hid (HFD.out o (List.mem_of_getElem? hoD))
       obtain⟨cv,hCV⟩:=name6 o.2 sv
       rw[hCV.out]at hcv
       obtain⟨kd,Hkd⟩:=name_itV o.1
       rw[Hkd.out]at hkd
       have HKD:=hid (λ(W:World) (hb:Below w3.heap.size w3 W)=>(hb.cell (p:=ad.add (i*7)) (by rw[add_blk];exact Nat.lt_of_lt_of_le (HF.out _ hfa) HB3.out.size)).trans hkd)
       have HCV:=hid (λ(W:World) (hb:Below w3.heap.size w3 W) (y:Nat) (hy:y<cv.size)=>(hb.cell (p:=((ad.add (i*7)).add 1).add y) (by rw[add_blk,add_blk,add_blk];exact Nat.lt_of_lt_of_le (HF.out _ hfa) HB3.out.size)).trans (hcv y hy))
       have ICV:=hid (show (Tryz.prog.info? 34).map (·.size)=some cv.size from infoV6.trans (congrArg some hCV.size.symm))
       have HLT:=hid hlt
       have kz:=HKD.out wr hM.out.b
       clear hfa hkd hcv hoD hlt
       go_upto_block 2 with fail
       go_cut [11,12] (λs11 s12 wx=>CcS2 Gs Fs w3 q1 q2 j T s11 s12 wx)
       case first=>
        clear kz
        by_cases k0:kd=0
        ·subst k0
         have HD3:=hid hM.out.c1.d3
         obtain⟨rr,Hrr⟩:=name_itV (openA T (wayN j) cc)
         have HKR:=hid (show KeyIn T j rr.1 from by rw[←Hrr.out];exact keyIn_open HKI.out HSC.out HFT.out)
         have bz:wr.cell? ⟨z,3,none⟩=some (.slice (some ad) nD c3):=cell_of_heap (HZ6.out wr hM.out.b) 3
         go_wp2_with fail
         have hop:=open_any hM.out.c1 (HGG.out _ hM.out.b).1 (HGG.out _ hM.out.b).2
         rw[Hrr.out]at hop
         refine hop.mono ?_
         unfold CurDo
         rintro e x1 ⟨rfl,hc,ht⟩
         have HA:=hid (hM.out.do1 hc ht)
         clear hc ht hop bz
         have bz:x1.cell? ⟨z,3,none⟩=some (.slice (some ad) nD c3):=cell_of_heap (HZ6.out x1 HA.out.b) 3
         go_wp2_with fail
         have hop:=openR_any HA.out.c2 HRC.out HD3.out
         rw[Hrr.out]at hop
         refine hop.mono ?_
         unfold RcDo
         rintro e x2 ⟨rfl,hc,ht⟩
         have HA2:=hid (HA.out.do2 hc ht)
         clear hc ht hop bz
         go_wp2_with fail
         go_meet
         exact⟨rr.1,rr.2,rfl,rfl,HA2.out,HKR.out⟩
        ·by_cases k1:kd=1
         ·subst k1
          have HD3:=hid hM.out.c1.d3
          obtain⟨rr,Hrr⟩:=name_itV (upA cc)
          have HKR:=hid (show KeyIn T j rr.1 from by rw[←Hrr.out];exact keyIn_up HKI.out)
          have bz:wr.cell? ⟨z,3,none⟩=some (.slice (some ad) nD c3):=cell_of_heap (HZ6.out wr hM.out.b) 3
          go_wp2_with fail
          have hop:=up_any hM.out.c1
          rw[Hrr.out]at hop
          refine hop.mono ?_
          unfold CurDo
          rintro e x1 ⟨rfl,hc,ht⟩
          have HA:=hid (hM.out.do1 hc ht)
          clear hc ht hop bz
          have bz:x1.cell? ⟨z,3,none⟩=some (.slice (some ad) nD c3):=cell_of_heap (HZ6.out x1 HA.out.b) 3
          go_wp2_with fail
          have hop:=upR_any HA.out.c2 HD3.out
          rw[Hrr.out]at hop
          refine hop.mono ?_
          unfold RcDo
          rintro e x2 ⟨rfl,hc,ht⟩
          have HA2:=hid (HA.out.do2 hc ht)
          clear hc ht hop bz
          go_wp2_with fail
          go_meet
          exact⟨rr.1,rr.2,rfl,rfl,HA2.out,HKR.out⟩
         ·by_cases k2:kd=2
          ·subst k2
           have HD3:=hid hM.out.c1.d3
           obtain⟨rr,Hrr⟩:=name_itV (nextA T (wayN j) cc)
           have HKR:=hid (show KeyIn T j rr.1 from by rw[←Hrr.out];exact keyIn_next HKI.out HSC.out HFT.out)
           have bz:wr.cell? ⟨z,3,none⟩=some (.slice (some ad) nD c3):=cell_of_heap (HZ6.out wr hM.out.b) 3
           go_wp2_with fail
           have hop:=next_any hM.out.c1 (HGG.out _ hM.out.b).1 (HGG.out _ hM.out.b).2
           rw[Hrr.out]at hop
           refine hop.mono ?_
           unfold CurDo
           rintro e x1 ⟨rfl,hc,ht⟩
           have HA:=hid (hM.out.do1 hc ht)
           clear hc ht hop bz
           have bz:x1.cell? ⟨z,3,none⟩=some (.slice (some ad) nD c3):=cell_of_heap (HZ6.out x1 HA.out.b) 3
           go_wp2_with fail
           have hop:=nextR_any HA.out.c2 HRC.out HD3.out
           rw[Hrr.out]at hop
           refine hop.mono ?_
           unfold RcDo
           rintro e x2 ⟨rfl,hc,ht⟩
           have HA2:=hid (HA.out.do2 hc ht)
           clear hc ht hop bz
           go_wp2_with fail
           go_meet
           exact⟨rr.1,rr.2,rfl,rfl,HA2.out,HKR.out⟩
          ·skip
           have HD3:=hid hM.out.c1.d3
           obtain⟨rr,Hrr⟩:=name_itV (toA T (wayN j) false o.2 cc)
           have HKR:=hid (show KeyIn T j rr.1 from by rw[←Hrr.out];exact keyIn_to HKI.out HSC.out HFT.out false o.2)
           have bz:wr.cell? ⟨z,3,none⟩=some (.slice (some ad) nD c3):=cell_of_heap (HZ6.out wr hM.out.b) 3
           go_wp2_with ((with_reducible refine at_dst (some 105) ?_);refine ld_armG (by rfl) 34 _ rfl rfl cv _ (HCV.out _ hM.out.b) Tryz.underlying34 rfl ICV.out ?_)
           have hop:=seek_any hM.out.c1 o.2 sv HFO.out (HGG.out _ hM.out.b).1 (HGG.out _ hM.out.b).2
           rw[hCV.out,Hrr.out]at hop
           refine hop.mono ?_
           unfold CurDo
           rintro e x1 ⟨rfl,hc,ht⟩
           have HA:=hid (hM.out.do1 hc ht)
           clear hc ht hop bz
           have bz:x1.cell? ⟨z,3,none⟩=some (.slice (some ad) nD c3):=cell_of_heap (HZ6.out x1 HA.out.b) 3
           go_wp2_with ((with_reducible refine at_dst (some 113) ?_);refine ld_armG (by rfl) 34 _ rfl rfl cv _ (HCV.out _ HA.out.b) Tryz.underlying34 rfl ICV.out ?_)
           have hop:=seekR_any HA.out.c2 HRC.out HD3.out o.2 sv HFO.out
           rw[hCV.out,Hrr.out]at hop
           refine hop.mono ?_
           unfold RcDo
           rintro e x2 ⟨rfl,hc,ht⟩
           have HA2:=hid (HA.out.do2 hc ht)
           clear hc ht hop bz
           go_wp2_with fail
           go_meet
           exact⟨rr.1,rr.2,rfl,rfl,HA2.out,HKR.out⟩
       case rest=>
        rename World=>wB
        obtain⟨c6,rb,rfl,rfl,hcm,hki⟩:=hcut
        have hN:=hid hcm
        have HKI2:=hid hki
        clear hcm hki hM HKI bz kz
        have HD3:=hid hN.out.c1.d3
        obtain⟨ks,hks⟩:=name_itV (keyA c6)
        obtain⟨ss,hss⟩:=name_itV ks.isSome
        have HKV:=hid (show KeyV (ks.getD valZ) from by rw[←hks.out];exact keyIn_key HKI2.out)
        go_wp2_with fail
        have hky:=keyC_any hN.out.c1
        rw[hks.out]at hky
        refine hky.mono ?_
        unfold KeyRes
        rintro e x13 ⟨A13,cp13,rfl,hb⟩
        obtain⟨u13,hu13⟩:=name6 (ks.getD valZ) (.slice A13 0 cp13)
        rw[hu13.out,hss.out]
        have HA13:=hid (hN.out.on hb)
        have HXB13:=hid hb
        clear hky hb
        obtain⟨z13,hz13⟩:=name_itV x13.heap.size
        obtain⟨b13,hv13⟩:=name_itV (x13.alloc (.cells #[.int .i64 0,.bool false,.int .i64 0,.string ⟨#[]⟩,.string ⟨#[]⟩,.slice none 0 0] 34))
        have HV13:=hid (show b13.heap[z13]?=some (.cells #[.int .i64 0,.bool false,.int .i64 0,.string ⟨#[]⟩,.string ⟨#[]⟩,.slice none 0 0] 34 (0,0)) from by rw[←hv13.out,←hz13.out];exact heap_alloc_new x13 _)
        have SL13:=hid (show u13.size=(#[.int .i64 0,.bool false,.int .i64 0,.string ⟨#[]⟩,.string ⟨#[]⟩,.slice none 0 0]:Array Value).size from by rw[hu13.size];rfl)
        have IL13:=hid (show (Tryz.prog.info? 34).map (·.size)=some u13.size from infoV6.trans (congrArg some hu13.size.symm))
        have OL13:=hid (show u13.all (·.oneCell')=true from by rw[←hu13.out];kernel_rfl)
        go_upto_region 30 with ((with_reducible refine at_st 13 ?_);rw[hv13.out,hz13.out];refine st_row rfl 34 _ _ rfl z13 (#[.int .i64 0,.bool false,.int .i64 0,.string ⟨#[]⟩,.string ⟨#[]⟩,.slice none 0 0]) u13 34 rfl rfl HV13.out SL13.out IL13.out OL13.out ?_;intro y13 hw13 ht13)
        have HW13:=hid hw13
        have HB13:=hid (show Below x13.heap.size x13 y13 from box_below (by rw[hv13.out,hz13.out];exact ht13))
        have HT13:=hid (HA13.out.on HB13.out)
        have HYB13:=hid (HXB13.out.trans (HB13.out.mono HXB13.out.size))
        clear hw13 ht13 hv13 HV13 SL13 OL13
        go_wp2_with fail
        have hky:=keyR_any HT13.out.c2 HD3.out
        rw[hks.out]at hky
        refine hky.mono ?_
        unfold KeyRes
        rintro e x15 ⟨A15,cp15,rfl,hb⟩
        obtain⟨u15,hu15⟩:=name6 (ks.getD valZ) (.slice A15 0 cp15)
        rw[hu15.out,hss.out]
        have HA15:=hid (HT13.out.on hb)
        have HXB15:=hid hb
        clear hky hb
        obtain⟨z15,hz15⟩:=name_itV x15.heap.size
        obtain⟨b15,hv15⟩:=name_itV (x15.alloc (.cells #[.int .i64 0,.bool false,.int .i64 0,.string ⟨#[]⟩,.string ⟨#[]⟩,.slice none 0 0] 34))
        have HV15:=hid (show b15.heap[z15]?=some (.cells #[.int .i64 0,.bool false,.int .i64 0,.string ⟨#[]⟩,.string ⟨#[]⟩,.slice none 0 0] 34 (0,0)) from by rw[←hv15.out,←hz15.out];exact heap_alloc_new x15 _)
        have SL15:=hid (show u15.size=(#[.int .i64 0,.bool false,.int .i64 0,.string ⟨#[]⟩,.string ⟨#[]⟩,.slice none 0 0]:Array Value).size from by rw[hu15.size];rfl)
        have IL15:=hid (show (Tryz.prog.info? 34).map (·.size)=some u15.size from infoV6.trans (congrArg some hu15.size.symm))
        have OL15:=hid (show u15.all (·.oneCell')=true from by rw[←hu15.out];kernel_rfl)
        go_upto_region 31 with ((with_reducible refine at_st 15 ?_);rw[hv15.out,hz15.out];refine st_row rfl 34 _ _ rfl z15 (#[.int .i64 0,.bool false,.int .i64 0,.string ⟨#[]⟩,.string ⟨#[]⟩,.slice none 0 0]) u15 34 rfl rfl HV15.out SL15.out IL15.out OL15.out ?_;intro y15 hw15 ht15)
        have HW15:=hid hw15
        have HB15:=hid (show Below x15.heap.size x15 y15 from box_below (by rw[hv15.out,hz15.out];exact ht15))
        have HT15:=hid (HA15.out.on HB15.out)
        have HYB15:=hid (HXB15.out.trans (HB15.out.mono HXB15.out.size))
        clear hw15 ht15 hv15 HV15 SL15 OL15
        have HE13:=hid ((HYB15.out.block z13 (blk_lt HW13.out)).trans HW13.out)
        have hbb:(rb != rb)=false:=bne_self_eq_false _
        have hcc:(ss != ss)=false:=bne_self_eq_false _
        have hsm:=λW=>sameK_any HKV.out HKV.out A13 A15 cp13 cp15 W
        unfold ToldB at hsm
        rw[sameB_refl,hu13.out,hu15.out]at hsm
        have HSM:=hid hsm
        obtain⟨dd,Hdd⟩:=name_itV c6.way.length
        clear hsm
        refine wp_region_held_drew (S:=λW'=>CcM Gs Fs w3 q1 q2 j T c6 c6 W'∧W'.heap[z13]?=some (.cells u13 34 (0,0))∧W'.heap[z15]?=some (.cells u15 34 (0,0))) (by kernel_rfl) ⟨HT15.out.on (Below.refl _ _).drew,HE13.out,HW15.out⟩ (λhHeld=>?_)
        refine Boxed.out ?_
        refine tkW 0 143 (.bool rb) hHeld (λw hSw=>?_) (λhHeld=>?_)
        ·unfold runsTo
         go_simp
        try simp only[Act.put,aT,aZ,aS]
        refine tkW 1 144 (.bool rb) hHeld (λw hSw=>?_) (λhHeld=>?_)
        ·unfold runsTo
         go_simp
        try simp only[Act.put,aT,aZ,aS]
        refine tkW 2 145 (.bool false) hHeld (λw hSw=>?_) (λhHeld=>?_)
        ·unfold runsTo
         go_simp
        try simp only[Act.put,aT,aZ,aS]
        refine tkW 3 146 (.bool false) hHeld (λw hSw=>?_) (λhHeld=>?_)
        ·unfold runsTo
         go_simp
        try simp only[Act.put,aT,aZ,aS]
        refine tkW 4 147 (.bool ss) hHeld (λw hSw=>?_) (λhHeld=>?_)
        ·unfold runsTo
         go_simp
        try simp only[Act.put,aT,aZ,aS]
        refine tkW 5 148 (.bool ss) hHeld (λw hSw=>?_) (λhHeld=>?_)
        ·unfold runsTo
         go_simp
        try simp only[Act.put,aT,aZ,aS]
        refine tkW 6 149 (.bool false) hHeld (λw hSw=>?_) (λhHeld=>?_)
        ·unfold runsTo
         go_simp
        try simp only[Act.put,aT,aZ,aS]
        refine tkW 7 150 (.bool false) hHeld (λw hSw=>?_) (λhHeld=>?_)
        ·unfold runsTo
         go_simp
        try simp only[Act.put,aT,aZ,aS]
        refine tkW 8 151 (.bool false) hHeld (λw hSw=>?_) (λhHeld=>?_)
        ·unfold runsTo
         go_simp
        try simp only[Act.put,aT,aZ,aS]
        refine tkW 9 152 (.agg u13) hHeld (λw hSw=>?_) (λhHeld=>?_)
        ·exact val_of (ld_run hSw.2.1 34 _ Tryz.underlying34 rfl IL13.out)
        try simp only[Act.put,aT,aZ,aS]
        refine tkW 10 153 (.agg u15) hHeld (λw hSw=>?_) (λhHeld=>?_)
        ·exact val_of (ld_run hSw.2.2 34 _ Tryz.underlying34 rfl IL15.out)
        try simp only[Act.put,aT,aZ,aS]
        refine tkC 11 (λK hK=>?_)
        change Oper.wp _ ⟨some 154,_,_,_,_,_⟩ _ _ _ _
        go_simp
        refine (HSM.out _).mono ?_
        rintro e x31 ⟨rfl,hb⟩
        have HH_x31:=hid (show CcM Gs Fs w3 q1 q2 j T c6 c6 x31∧x31.heap[z13]?=some (.cells u13 34 (0,0))∧x31.heap[z15]?=some (.cells u15 34 (0,0)) from ⟨hHeld.1.on hb,(hb.block z13 (blk_lt hHeld.2.1)).trans hHeld.2.1,(hb.block z15 (blk_lt hHeld.2.2)).trans hHeld.2.2⟩)
        clear hb
        dsimp only
        refine hK.out _ _ HH_x31.out (λhHeld=>?_)
        clear hK K
        try simp only[Act.put,aT,aZ,aS]
        refine tkW 12 155 (.bool false) hHeld (λw hSw=>?_) (λhHeld=>?_)
        ·unfold runsTo
         go_simp
        try simp only[Act.put,aT,aZ,aS]
        refine tkW 13 156 (.bool false) hHeld (λw hSw=>?_) (λhHeld=>?_)
        ·unfold runsTo
         go_simp
        try simp only[Act.put,aT,aZ,aS]
        refine tkW 14 157 (.bool false) hHeld (λw hSw=>?_) (λhHeld=>?_)
        ·unfold runsTo
         go_simp
        try simp only[Act.put,aT,aZ,aS]
        refine tkW 15 158 (.pointer (some ⟨q1,0,none⟩)) hHeld (λw hSw=>?_) (λhHeld=>?_)
        ·unfold runsTo
         go_simp
        try simp only[Act.put,aT,aZ,aS]
        refine tkW 17 160 (.pointer (some ⟨q2,0,none⟩)) hHeld (λw hSw=>?_) (λhHeld=>?_)
        ·unfold runsTo
         go_simp
        try simp only[Act.put,aT,aZ,aS]
        refine tkW 18 161 (.pointer (some ⟨q2,0,none⟩)) hHeld (λw hSw=>?_) (λhHeld=>?_)
        ·unfold runsTo
         go_simp
        try simp only[Act.put,aT,aZ,aS]
        refine tkW 19 162 (.pointer (some ⟨q2,4,none⟩)) hHeld (λw hSw=>?_) (λhHeld=>?_)
        ·unfold runsTo
         go_simp
        try simp only[Act.put,aT,aZ,aS]
        refine tkW 20 163 (.int .i64 (dd:Nat)) hHeld (λw hSw=>?_) (λhHeld=>?_)
        ·have p:w.cell? ⟨q2,4,none⟩=some (.int .i64 (dd:Nat)):=by rw[←Hdd.out];exact hSw.1.c2.f4
         unfold runsTo
         go_simp
        try simp only[Act.put,aT,aZ,aS]
        refine tkC 16 (λK hK=>?_)
        change Oper.wp _ ⟨some 159,_,_,_,_,_⟩ _ _ _ _
        go_simp
        refine (dep_any hHeld.1.c1 Hdd.out).mono ?_
        rintro e x32 ⟨rfl,hb⟩
        subst hb
        dsimp only
        refine hK.out _ _ hHeld (λhHeld=>?_)
        clear hK K
        try simp only[Act.put,aT,aZ,aS]
        refine tkW 21 164 (.bool false) hHeld (λw hSw=>?_) (λhHeld=>?_)
        ·unfold runsTo
         go_simp
        try simp only[Act.put,aT,aZ,aS]
        refine tkW 22 165 (.bool false) hHeld (λw hSw=>?_) (λhHeld=>?_)
        ·unfold runsTo
         go_simp
        try simp only[Act.put,aT,aZ,aS]
        refine⟨wpAnyH_done (by kernel_rfl) ?_ _⟩
        have HFN:=hid hHeld.1
        clear hHeld hbb hcc
        have w1:IntKind.i64.wrap ((i:Int)+1)=(i:Int)+1:=HWI.out
        go_wp2_with fail
        go_roundw
        case rel=>exact⟨i+1,by have:=HLT.out;omega,by have:=HLT.out;omega,by go_num,hid ⟨c6,HFN.out,HKI2.out⟩⟩
        case measure=>have:=HLT.out;simp[intOf];omega
      ·by_cases hl2:i<nD
       ·have a1:(i:Int)<nD:=by omega
        have a2:¬(i:Int)<60:=by omega
        have HBE:=hid (HB3.out.trans (hM.out.b.mono HB3.out.size))
        go_wp2_with fail
        refine (HW.out _ HBE.out).mono ?_
        rintro e w9 ⟨rfl,hb9⟩
        have HB9:=hid hb9
        clear hb9
        go_wp2_with fail
        go_ret
        exact⟨rfl,HB9.out⟩
       ·have a1:¬(i:Int)<nD:=by omega
        have HBE:=hid (HB3.out.trans (hM.out.b.mono HB3.out.size))
        go_wp2_with fail
        refine (HW.out _ HBE.out).mono ?_
        rintro e w9 ⟨rfl,hb9⟩
        have HB9:=hid hb9
        clear hb9
        go_wp2_with fail
        go_ret
        exact⟨rfl,HB9.out⟩
end Go.Proofs.YtijciakkfpjjbaaGreatDoor
namespace Go.Proofs.YtijciakkfpjjbaaGreatDoor
open Go Go.ChangeShapes Go.WideShapes Go.ChangeAt Go.RowKit Go.Joins
open Go.Lib (hid cell_of_heap)
mutual
def i64V:Val→Prop
 | .mk _ _ n _ _ l=>(-9223372036854775808≤n∧n≤9223372036854775807)∧i64L l
def i64L:List Val→Prop
 | []=>True
 | v::r=>i64V v∧i64L r
end
theorem cellAdd (a:Addr) (i j:Nat):(a.add i).add j=a.add (i+j):=Go.Deep.add_add a i j
theorem trod_six {H:Type} {enc:TypeId×Value→H} {P:Program} {w:World} {base:Nat} {spare:Nat→Bool} {held:Bool} {t:TypeId} {f0 f1 f2 f3 f4 f5:Field} {fuel:Nat} {cs:List Value} {x:DataW H×List MemPlace} (ht:P.underlying t=some (.struct #[f0,f1,f2,f3,f4,f5])) (ce:P.cellsOf t=6)
    (o0:f0.offset=0) (o1:f1.offset=1) (o2:f2.offset=2) (o3:f3.offset=3) (o4:f4.offset=4) (o5:f5.offset=5) (c0:P.cellsOf f0.type=1) (c1:P.cellsOf f1.type=1) (c2:P.cellsOf f2.type=1) (c3:P.cellsOf f3.type=1) (c4:P.cellsOf f4.type=1) (c5:P.cellsOf f5.type=1)
    (h:DataW.trod enc P w base spare held fuel t cs=some x) :
    ∃(v0 v1 v2 v3 v4 v5:Value) (y0 y1 y2 y3 y4 y5:DataW H×List MemPlace) (k:Nat),cs=[v0,v1,v2,v3,v4,v5]∧x.1 = .agg [y0.1,y1.1,y2.1,y3.1,y4.1,y5.1]∧DataW.trod enc P w base spare held k f0.type [v0]=some y0∧DataW.trod enc P w base spare held k f1.type [v1]=some y1∧DataW.trod enc P w base spare held k f2.type [v2]=some y2∧DataW.trod enc P w base spare held k f3.type [v3]=some y3∧DataW.trod enc P w base spare held k f4.type [v4]=some y4∧DataW.trod enc P w base spare held k f5.type [v5]=some y5:=by
 obtain⟨xs,k,hk,hxy,hcl,hxl,hf⟩:=DataW.trod_struct ht h
 rw[ce]at hcl
 match xs,hxl,cs,hcl with
 | [y0,y1,y2,y3,y4,y5],_,[v0,v1,v2,v3,v4,v5],_=>
  have g0:=hf 0 f0 rfl
  have g1:=hf 1 f1 rfl
  have g2:=hf 2 f2 rfl
  have g3:=hf 3 f3 rfl
  have g4:=hf 4 f4 rfl
  have g5:=hf 5 f5 rfl
  simp[o0,o1,o2,o3,o4,o5,c0,c1,c2,c3,c4,c5]at g0 g1 g2 g3 g4 g5
  exact⟨v0,v1,v2,v3,v4,v5,y0,y1,y2,y3,y4,y5,k,rfl,by rw[hxy];rfl,g0,g1,g2,g3,g4,g5⟩
set_option maxRecDepth 100000 in
theorem val_cells {H:Type} {enc:TypeId×Value→H} {W:World} {N:Nat} {held:Bool} {n:Nat} {cs:List Value} {d:DataW H} {p:List MemPlace}
    (ih:∀{fuel:Nat} {v:Value} {d:DataW H} {p:List MemPlace},Rows.uptoBulk d≤N→DataW.trod enc Tryz.prog W 0 (λ_=>true) held fuel 32 [v]=some (d,p) →
     ∃A n cap l,v = .slice A n cap∧n≤cap∧LRd W (λg=>g<W.heap.size) l A n∧i64L l∧sizeL l<Rows.uptoBulk d)
    (hN:Rows.uptoBulk d≤N+1) (h:DataW.trod enc Tryz.prog W 0 (λ_=>true) held n 34 cs=some (d,p)) :
    ∃x,cs.toArray.size=6∧VRd W (λg=>g<W.heap.size) x (.agg cs.toArray)∧i64V x∧sizeV x≤Rows.uptoBulk d:=by
 obtain⟨v0,v1,v2,v3,v4,v5,y0,y1,y2,y3,y4,y5,k,rfl,hxy,g0,g1,g2,g3,g4,g5⟩:=trod_six Tryz.underlying34 (by kernel_rfl) rfl rfl rfl rfl rfl rfl (by kernel_rfl) (by kernel_rfl) (by kernel_rfl) (by kernel_rfl) (by kernel_rfl) (by kernel_rfl) h
 obtain⟨k0,e0,d0,w0⟩:=DataW.trod_int (by kernel_rfl:Tryz.prog.underlying 3=some (.int .i64)) g0
 obtain⟨k1,e1,d1⟩:=DataW.trod_bool (by kernel_rfl:Tryz.prog.underlying 4=some .bool) g1
 obtain⟨k2,e2,d2,w2⟩:=DataW.trod_int (by kernel_rfl:Tryz.prog.underlying 2=some (.int .i64)) g2
 obtain⟨k3,e3,d3,w3⟩:=DataW.trod_string (by kernel_rfl:Tryz.prog.underlying 9=some .string) g3
 obtain⟨k4,e4,d4,w4⟩:=DataW.trod_string (by kernel_rfl:Tryz.prog.underlying 9=some .string) g4
 injection e0 with e0 _
 injection e1 with e1 _
 injection e2 with e2 _
 injection e3 with e3 _
 injection e4 with e4 _
 subst e0 e1 e2 e3 e4 d0 d1 d2 d3 d4
 obtain⟨y5,p5⟩:=y5
 simp only at hxy
 subst hxy
 have hbulk:6+k3.size+k4.size+Rows.uptoBulk y5≤Rows.uptoBulk (DataW.agg [.lit (.int .i64 k0),.lit (.bool k1),.lit (.int .i64 k2),.lit (.string k3.data.toList),.lit (.string k4.data.toList),y5]):=by
  have z3:k3.data.toList.length=k3.size:=by rw[Array.length_toList];rfl
  have z4:k4.data.toList.length=k4.size:=by rw[Array.length_toList];rfl
  simp only[Rows.uptoBulk,Rows.uptoBulkAll]
  omega
 obtain⟨A,m,cap,l,e5,hcap,hl,h64,hsz⟩:=ih (by omega) g5
 subst e5
 have hm:m=l.length:=hl.1
 subst hm
 have h2:-9223372036854775808≤k2∧k2≤9223372036854775807:=by simpa [Lit.wf,IntKind.min,IntKind.max,IntKind.signed,IntKind.bits] using w2
 refine⟨.mk k0 k1 k2 k3 k4 l,rfl,VRd.of_list (v:=.mk k0 k1 k2 k3 k4 l) hcap hl,⟨h2,h64⟩,?_⟩
 simp only[sizeV]
 omega
set_option maxRecDepth 100000 in
theorem vals_open {H:Type} {enc:TypeId×Value→H} {W:World} {held:Bool} (N:Nat):∀{fuel:Nat} {v:Value} {d:DataW H} {p:List MemPlace},Rows.uptoBulk d≤N→DataW.trod enc Tryz.prog W 0 (λ_=>true) held fuel 32 [v]=some (d,p) →
      ∃A n cap l,v = .slice A n cap∧n≤cap∧LRd W (λg=>g<W.heap.size) l A n∧i64L l∧sizeL l<Rows.uptoBulk d:=by
 induction N with
 | zero=>intro fuel v d p hN;have:=bulks.one_le d;omega
 | succ N ih=>
  intro fuel v d p hN h
  rcases Go.Deep.open_slice Tryz.underlying32 h with⟨h3,hd⟩ | ⟨a,len,cap,m,n,D,Pl,h3,_,hlc,hcm,hm,hd,hel⟩
  ·injection h3 with h3 _
   subst h3
   exact⟨none,0,0,[],rfl,Nat.le_refl _,LRd.nil 0 rfl,trivial,by simp only[sizeL];exact bulks.one_le d⟩
  ·injection h3 with h3 _
   subst h3
   have hml:len≤m:=by rw[hm];split<;>omega
   injection hd with hd _
   subst hd
   have hb:=bulks.slice_elems ((List.range len).map D) ((List.range (m-len)).map λj=>D (len+j))
   have hDi:∀i,i<len→Rows.uptoBulk (D i)≤N:=λi hi=>by
    have:=bulks.part_le (List.mem_map.2 ⟨i,List.mem_range.2 hi,rfl⟩:D i∈(List.range len).map D)
    omega
   have each:∀i,i<len→∃q:Val×Array Value,q.2.size=6∧(∀j,j<6→W.cell? (a.add (i*6+j))=q.2[j]?)∧VRd W (λg=>g<W.heap.size) q.1 (.agg q.2)∧i64V q.1∧sizeV q.1≤Rows.uptoBulk (D i):=λi hi=>by
    obtain⟨cs',c1,c2⟩:=hel i (by omega)
    rw[show Tryz.prog.cellsOf 34=6 by kernel_rfl]at c1
    obtain⟨_,hlen,hcell⟩:=World.cells?_some c1
    obtain⟨x,x1,x2,x3,x4⟩:=val_cells (λhN h=>ih hN h) (Nat.le_succ_of_le (hDi i hi)) c2
    exact⟨(x,cs'.toArray),x1,λj hj=>by rw[←cellAdd,hcell j hj];simp,x2,x3,x4⟩
   have hex:∃q:Nat→Val×Array Value,∀i,i<len→(q i).2.size=6∧(∀j,j<6→W.cell? (a.add (i*6+j))=(q i).2[j]?)∧VRd W (λg=>g<W.heap.size) (q i).1 (.agg (q i).2)∧i64V (q i).1∧sizeV (q i).1≤Rows.uptoBulk (D i):=by
    classical
    exact⟨λi=>if hi:i<len then Classical.choose (each i hi) else (.mk 0 false 0 ⟨#[]⟩ ⟨#[]⟩ [],#[]),λi hi=>by simp only[dif_pos hi];exact Classical.choose_spec (each i hi)⟩
   obtain⟨q,hq⟩:=hex
   refine⟨some a,len,cap,(List.range len).map λi=>(q i).1,rfl,hlc,⟨by simp,λhn=>⟨a,rfl,?_,λi x hx=>?_⟩⟩,?_,?_⟩
   ·obtain⟨cs',c1,_⟩:=hel 0 (by omega)
    rw[show Tryz.prog.cellsOf 34=6 by kernel_rfl]at c1
    obtain⟨_,hlen,hcell⟩:=World.cells?_some c1
    have h0:=hcell 0 (by omega)
    rw[List.getElem?_eq_getElem (by omega)]at h0
    have:=World.block_lt_of_cell? W _ h0
    simpa [Addr.add] using this
   ·rw[List.getElem?_map]at hx
    have hil:i<len:=by
     rcases Nat.lt_or_ge i len with h' | h'
     ·exact h'
     ·rw[List.getElem?_eq_none (by simpa using h')]at hx;cases hx
    rw[List.getElem?_range hil]at hx
    injection hx with hx
    subst hx
    obtain⟨q1,q2,q3,_⟩:=hq i hil
    exact⟨_,q1,q2,q3⟩
   ·have:∀L:List Nat,(∀i,i∈L→i<len)→i64L (L.map λi=>(q i).1):=λL=>by
      induction L with
      | nil=>intro _;trivial
      | cons x r ihl=>intro hL;exact⟨(hq x (hL x (List.mem_cons_self ..))).2.2.2.1,ihl λi hi=>hL i (List.mem_cons_of_mem _ hi)⟩
    exact this _ λi hi=>List.mem_range.1 hi
   ·have:∀L:List Nat,(∀i,i∈L→i<len)→sizeL (L.map λi=>(q i).1)≤Rows.uptoBulkAll (L.map D):=λL=>by
      induction L with
      | nil=>intro _;simp[sizeL]
      | cons x r ihl=>
       intro hL
       have h1:=(hq x (hL x (List.mem_cons_self ..))).2.2.2.2
       have h2:=ihl λi hi=>hL i (List.mem_cons_of_mem _ hi)
       simp only[List.map_cons,sizeL,Rows.uptoBulkAll]
       omega
    have:=this (List.range len) λi hi=>List.mem_range.1 hi
    omega
theorem trod_op {H:Type} {enc:TypeId×Value→H} {P:Program} {w:World} {base:Nat} {spare:Nat→Bool} {held:Bool} {t:TypeId} {f0 f1:Field} {fuel:Nat} {cs:List Value} {x:DataW H×List MemPlace} (ht:P.underlying t=some (.struct #[f0,f1])) (ce:P.cellsOf t=7)
    (o0:f0.offset=0) (o1:f1.offset=1) (c0:P.cellsOf f0.type=1) (c1:P.cellsOf f1.type=6)
    (h:DataW.trod enc P w base spare held fuel t cs=some x) :
    ∃(v0 v1 v2 v3 v4 v5 v6:Value) (y0 y1:DataW H×List MemPlace) (k:Nat),cs=[v0,v1,v2,v3,v4,v5,v6]∧x.1 = .agg [y0.1,y1.1]∧DataW.trod enc P w base spare held k f0.type [v0]=some y0∧DataW.trod enc P w base spare held k f1.type [v1,v2,v3,v4,v5,v6]=some y1:=by
 obtain⟨xs,k,hk,hxy,hcl,hxl,hf⟩:=DataW.trod_struct ht h
 rw[ce]at hcl
 match xs,hxl,cs,hcl with
 | [y0,y1],_,[v0,v1,v2,v3,v4,v5,v6],_=>
  have g0:=hf 0 f0 rfl
  have g1:=hf 1 f1 rfl
  simp[o0,o1,c0,c1]at g0 g1
  exact⟨v0,v1,v2,v3,v4,v5,v6,y0,y1,k,rfl,by rw[hxy];rfl,g0,g1⟩
theorem trod_tr {H:Type} {enc:TypeId×Value→H} {P:Program} {w:World} {base:Nat} {spare:Nat→Bool} {held:Bool} {t:TypeId} {f0 f1 f2:Field} {fuel:Nat} {cs:List Value} {x:DataW H×List MemPlace} (ht:P.underlying t=some (.struct #[f0,f1,f2])) (ce:P.cellsOf t=18)
    (o0:f0.offset=0) (o1:f1.offset=6) (o2:f2.offset=12) (c0:P.cellsOf f0.type=6) (c1:P.cellsOf f1.type=6) (c2:P.cellsOf f2.type=6)
    (h:DataW.trod enc P w base spare held fuel t cs=some x) :
    ∃(v0 v1 v2 v3 v4 v5 v6 v7 v8 v9 v10 v11 v12 v13 v14 v15 v16 v17:Value) (y0 y1 y2:DataW H×List MemPlace) (k:Nat),cs=[v0,v1,v2,v3,v4,v5,v6,v7,v8,v9,v10,v11,v12,v13,v14,v15,v16,v17]∧x.1 = .agg [y0.1,y1.1,y2.1]∧DataW.trod enc P w base spare held k f0.type [v0,v1,v2,v3,v4,v5]=some y0∧DataW.trod enc P w base spare held k f1.type [v6,v7,v8,v9,v10,v11]=some y1∧DataW.trod enc P w base spare held k f2.type [v12,v13,v14,v15,v16,v17]=some y2:=by
 obtain⟨xs,k,hk,hxy,hcl,hxl,hf⟩:=DataW.trod_struct ht h
 rw[ce]at hcl
 match xs,hxl,cs,hcl with
 | [y0,y1,y2],_,[v0,v1,v2,v3,v4,v5,v6,v7,v8,v9,v10,v11,v12,v13,v14,v15,v16,v17],_=>
  have g0:=hf 0 f0 rfl
  have g1:=hf 1 f1 rfl
  have g2:=hf 2 f2 rfl
  simp[o0,o1,o2,c0,c1,c2]at g0 g1 g2
  exact⟨v0,v1,v2,v3,v4,v5,v6,v7,v8,v9,v10,v11,v12,v13,v14,v15,v16,v17,y0,y1,y2,k,rfl,by rw[hxy];rfl,g0,g1,g2⟩
theorem trod_four {H:Type} {enc:TypeId×Value→H} {P:Program} {w:World} {base:Nat} {spare:Nat→Bool} {held:Bool} {t:TypeId} {f0 f1 f2 f3:Field} {fuel:Nat} {cs:List Value} {x:DataW H×List MemPlace} (ht:P.underlying t=some (.struct #[f0,f1,f2,f3])) (ce:P.cellsOf t=4)
    (o0:f0.offset=0) (o1:f1.offset=1) (o2:f2.offset=2) (o3:f3.offset=3) (c0:P.cellsOf f0.type=1) (c1:P.cellsOf f1.type=1) (c2:P.cellsOf f2.type=1) (c3:P.cellsOf f3.type=1)
    (h:DataW.trod enc P w base spare held fuel t cs=some x) :
    ∃(v0 v1 v2 v3:Value) (y0 y1 y2 y3:DataW H×List MemPlace) (k:Nat),cs=[v0,v1,v2,v3]∧x.1 = .agg [y0.1,y1.1,y2.1,y3.1]∧DataW.trod enc P w base spare held k f0.type [v0]=some y0∧DataW.trod enc P w base spare held k f1.type [v1]=some y1∧DataW.trod enc P w base spare held k f2.type [v2]=some y2∧DataW.trod enc P w base spare held k f3.type [v3]=some y3:=by
 obtain⟨xs,k,hk,hxy,hcl,hxl,hf⟩:=DataW.trod_struct ht h
 rw[ce]at hcl
 match xs,hxl,cs,hcl with
 | [y0,y1,y2,y3],_,[v0,v1,v2,v3],_=>
  have g0:=hf 0 f0 rfl
  have g1:=hf 1 f1 rfl
  have g2:=hf 2 f2 rfl
  have g3:=hf 3 f3 rfl
  simp[o0,o1,o2,o3,c0,c1,c2,c3]at g0 g1 g2 g3
  exact⟨v0,v1,v2,v3,y0,y1,y2,y3,k,rfl,by rw[hxy];rfl,g0,g1,g2,g3⟩
def sumBy {α : Type} (f:α → Nat) (l:List α):Nat:=(l.map f).sum
set_option maxRecDepth 100000 in
theorem slice_of {α : Type} [Inhabited α] {H:Type} {enc:TypeId×Value→H} {W:World} {held:Bool} {R:Lies α} {sz N:Nat} {T E:TypeId} {Q:α → Prop} {wt:α → Nat} (hT:Tryz.prog.underlying T=some (.slice E)) (hE:Tryz.prog.cellsOf E=sz) (hsz:0<sz)
    (each:∀{fuel:Nat} {cs:List Value} {d:DataW H} {p:List MemPlace},Rows.uptoBulk d≤N→DataW.trod enc Tryz.prog W 0 (λ_=>true) held fuel E cs=some (d,p)→∃x:α,cs.toArray.size=sz∧R W (λg=>g<W.heap.size) x cs.toArray∧Q x∧wt x≤Rows.uptoBulk d)
    {fuel:Nat} {v:Value} {d:DataW H} {p:List MemPlace} (hN:Rows.uptoBulk d≤N) (h:DataW.trod enc Tryz.prog W 0 (λ_=>true) held fuel T [v]=some (d,p)) :
    ∃l:List α,SlR sz R W (λg=>g<W.heap.size) l v∧(∀x,x∈l→Q x)∧sumBy wt l<Rows.uptoBulk d∧l.length<Rows.uptoBulk d:=by
 rcases Go.Deep.open_slice hT h with⟨h3,hd⟩ | ⟨a,len,cap,m,n,D,Pl,h3,_,hlc,hcm,hm,hd,hel⟩
 ·injection h3 with h3 _
  subst h3
  have h1:=bulks.one_le d
  exact⟨[],SlR.nil ..,λx hx=>(List.not_mem_nil hx).elim,by show 0<_;omega,by show 0<_;omega⟩
 ·injection h3 with h3 _
  subst h3
  have hml:len≤m:=by rw[hm];split<;>omega
  injection hd with hd _
  subst hd
  have hb:=bulks.slice_elems ((List.range len).map D) ((List.range (m-len)).map λj=>D (len+j))
  have hb2:=bulks.slice_le ((List.range len).map D) ((List.range (m-len)).map λj=>D (len+j))
  have hDi:∀i,i<len→Rows.uptoBulk (D i)≤N:=λi hi=>by
   have:=bulks.part_le (List.mem_map.2 ⟨i,List.mem_range.2 hi,rfl⟩:D i∈(List.range len).map D)
   omega
  have ev:∀i,i<len→∃q:α × Array Value,q.2.size=sz∧(∀j,j<sz→W.cell? (a.add (i*sz+j))=q.2[j]?)∧R W (λg=>g<W.heap.size) q.1 q.2∧Q q.1∧wt q.1≤Rows.uptoBulk (D i):=λi hi=>by
   obtain⟨cs',c1,c2⟩:=hel i (by omega)
   rw[hE]at c1
   obtain⟨_,hlen,hcell⟩:=World.cells?_some c1
   obtain⟨x,x1,x2,x3,x4⟩:=each (hDi i hi) c2
   exact⟨(x,cs'.toArray),x1,λj hj=>by rw[←cellAdd,hcell j hj];simp,x2,x3,x4⟩
  have hex:∃q:Nat → α × Array Value,∀i,i<len→(q i).2.size=sz∧(∀j,j<sz→W.cell? (a.add (i*sz+j))=(q i).2[j]?)∧R W (λg=>g<W.heap.size) (q i).1 (q i).2∧Q (q i).1∧wt (q i).1≤Rows.uptoBulk (D i):=by
   classical
   exact⟨λi=>if hi:i<len then Classical.choose (ev i hi) else (default,#[]),λi hi=>by simp only[dif_pos hi];exact Classical.choose_spec (ev i hi)⟩
  obtain⟨q,hq⟩:=hex
  have hll:((List.range len).map λi=>(q i).1).length=len:=by simp
  refine⟨(List.range len).map λi=>(q i).1,⟨some a,cap,by rw[hll],by rw[hll];exact hlc,rfl,λhn=>⟨a,rfl,?_,λi x hx=>?_⟩⟩,?_,?_,?_⟩
  ·obtain⟨cs',c1,_⟩:=hel 0 (by rw[hll]at hn;omega)
   rw[hE]at c1
   obtain⟨_,hlen,hcell⟩:=World.cells?_some c1
   have h0:=hcell 0 hsz
   rw[List.getElem?_eq_getElem (by omega)]at h0
   have:=World.block_lt_of_cell? W _ h0
   simpa [Addr.add] using this
  ·rw[List.getElem?_map]at hx
   have hil:i<len:=by
    rcases Nat.lt_or_ge i len with h' | h'
    ·exact h'
    ·rw[List.getElem?_eq_none (by simpa using h')]at hx;cases hx
   rw[List.getElem?_range hil]at hx
   injection hx with hx
   subst hx
   obtain⟨q1,q2,q3,_⟩:=hq i hil
   exact⟨_,q1,q2,q3⟩
  ·intro x hx
   obtain⟨i,hi,rfl⟩:=List.mem_map.1 hx
   exact (hq i (List.mem_range.1 hi)).2.2.2.1
  ·have:∀L:List Nat,(∀i,i∈L→i<len)→sumBy wt (L.map λi=>(q i).1)≤Rows.uptoBulkAll (L.map D):=λL=>by
     induction L with
     | nil=>intro _;simp[sumBy]
     | cons x r ihl=>
      intro hL
      have h1:=(hq x (hL x (List.mem_cons_self ..))).2.2.2.2
      have h2:=ihl λi hi=>hL i (List.mem_cons_of_mem _ hi)
      simp only[sumBy,List.map_cons,List.sum_cons,Rows.uptoBulkAll]at h2 ⊢
      omega
   have:=this (List.range len) λi hi=>List.mem_range.1 hi
   omega
  ·rw[hll]
   have hh:((List.range len).map D).length=len:=by simp
   omega
instance:Inhabited Val:=⟨.mk 0 false 0 ⟨#[]⟩ ⟨#[]⟩ []⟩
instance:Inhabited Trip:=⟨⟨default,default,default⟩⟩
section
variable {H:Type} {enc:TypeId×Value→H} {W:World} {held:Bool} {fuel:Nat} {d:DataW H} {p:List MemPlace}
theorem val_of_cells {cs:List Value} (hN:Rows.uptoBulk d≤1048576) (h:DataW.trod enc Tryz.prog W 0 (λ_=>true) held fuel 34 cs=some (d,p)) :
    ∃x:Val,OkV x∧∃s,cs.toArray=cellsV x s∧VRd W (λg=>g<W.heap.size) x (.agg (cellsV x s)):=by
 obtain⟨x,x1,x2,x3,x4⟩:=val_cells (N:=1048576) (λhN h=>vals_open 1048576 hN h) (by omega) h
 obtain⟨A,cap,hu,_,_⟩:=x2.inv
 injection hu with hu
 have hi:-9223372036854775808≤x.num∧x.num≤9223372036854775807:=by
  cases x with
  | mk k b n t y l=>
   simp only[i64V]at x3
   exact x3.1
 exact⟨x,⟨by omega,hi.1,hi.2⟩,_,hu,by rw[←hu];exact x2⟩
set_option maxRecDepth 100000 in
theorem tr_el {cs:List Value} (hN:Rows.uptoBulk d≤1048576) (h:DataW.trod enc Tryz.prog W 0 (λ_=>true) held fuel 41 cs=some (d,p)) :
    ∃x:Trip,cs.toArray.size=18∧TrR W (λg=>g<W.heap.size) x cs.toArray∧OkT x∧(λ_:Trip=>0) x≤Rows.uptoBulk d:=by
 obtain⟨v0,v1,v2,v3,v4,v5,v6,v7,v8,v9,v10,v11,v12,v13,v14,v15,v16,v17,y0,y1,y2,k,rfl,hxy,g0,g1,g2⟩:=trod_tr Tryz.underlying41 (by kernel_rfl) rfl rfl rfl (by kernel_rfl) (by kernel_rfl) (by kernel_rfl) h
 obtain⟨y0,p0⟩:=y0
 obtain⟨y1,p1⟩:=y1
 obtain⟨y2,p2⟩:=y2
 simp only at hxy
 subst hxy
 have hb:Rows.uptoBulk y0+Rows.uptoBulk y1+Rows.uptoBulk y2≤Rows.uptoBulk (DataW.agg [y0,y1,y2]):=by
  simp only[Rows.uptoBulk,Rows.uptoBulkAll]
  omega
 obtain⟨x,o0,s0,e0,r0⟩:=val_of_cells (by omega) g0
 obtain⟨y,o1,s1,e1,r1⟩:=val_of_cells (by omega) g1
 obtain⟨z,o2,s2,e2,r2⟩:=val_of_cells (by omega) g2
 refine⟨⟨x,y,z⟩,rfl,⟨λi=>if i=0 then s0 else if i=1 then s1 else s2,?_,λi hi=>?_⟩,⟨o0,o1,o2⟩,Nat.zero_le _⟩
 ·show _=cellsV x s0++cellsV y s1++cellsV z s2
  rw[←e0,←e1,←e2]
  rfl
 ·rcases (show i=0∨i=1∨i=2 by omega) with rfl | rfl | rfl
  ·exact r0
  ·exact r1
  ·exact r2
set_option maxRecDepth 100000 in
theorem pat_el {cs:List Value} (hN:Rows.uptoBulk d≤1048576) (h:DataW.trod enc Tryz.prog W 0 (λ_=>true) held fuel 64 cs=some (d,p)) :
    ∃x:Trip,cs.toArray.size=18∧TrR W (λg=>g<W.heap.size) x cs.toArray∧OkT x∧(λ_:Trip=>0) x≤Rows.uptoBulk d:=by
 obtain⟨v0,v1,v2,v3,v4,v5,v6,v7,v8,v9,v10,v11,v12,v13,v14,v15,v16,v17,y0,y1,y2,k,rfl,hxy,g0,g1,g2⟩:=trod_tr Tryz.underlying64 (by kernel_rfl) rfl rfl rfl (by kernel_rfl) (by kernel_rfl) (by kernel_rfl) h
 obtain⟨y0,p0⟩:=y0
 obtain⟨y1,p1⟩:=y1
 obtain⟨y2,p2⟩:=y2
 simp only at hxy
 subst hxy
 have hb:Rows.uptoBulk y0+Rows.uptoBulk y1+Rows.uptoBulk y2≤Rows.uptoBulk (DataW.agg [y0,y1,y2]):=by
  simp only[Rows.uptoBulk,Rows.uptoBulkAll]
  omega
 obtain⟨x,o0,s0,e0,r0⟩:=val_of_cells (by omega) g0
 obtain⟨y,o1,s1,e1,r1⟩:=val_of_cells (by omega) g1
 obtain⟨z,o2,s2,e2,r2⟩:=val_of_cells (by omega) g2
 refine⟨⟨x,y,z⟩,rfl,⟨λi=>if i=0 then s0 else if i=1 then s1 else s2,?_,λi hi=>?_⟩,⟨o0,o1,o2⟩,Nat.zero_le _⟩
 ·show _=cellsV x s0++cellsV y s1++cellsV z s2
  rw[←e0,←e1,←e2]
  rfl
 ·rcases (show i=0∨i=1∨i=2 by omega) with rfl | rfl | rfl
  ·exact r0
  ·exact r1
  ·exact r2
set_option maxRecDepth 100000 in
theorem op_el {cs:List Value} (hN:Rows.uptoBulk d≤1048576) (h:DataW.trod enc Tryz.prog W 0 (λ_=>true) held fuel 57 cs=some (d,p)) :
    ∃x:Int×Val,cs.toArray.size=7∧OpR W (λg=>g<W.heap.size) x cs.toArray∧OkV x.2∧(λ_:Int×Val=>0) x≤Rows.uptoBulk d:=by
 obtain⟨v0,v1,v2,v3,v4,v5,v6,y0,y1,k,rfl,hxy,g0,g1⟩:=trod_op Tryz.underlying57 (by kernel_rfl) rfl rfl (by kernel_rfl) (by kernel_rfl) h
 obtain⟨i0,e0,d0,_⟩:=DataW.trod_int (by kernel_rfl:Tryz.prog.underlying 3=some (.int .i64)) g0
 injection e0 with e0 _
 subst e0 d0
 obtain⟨y1,p1⟩:=y1
 simp only at hxy
 subst hxy
 have hb:Rows.uptoBulk y1≤Rows.uptoBulk (DataW.agg [.lit (.int .i64 i0),y1]):=by
  simp only[Rows.uptoBulk,Rows.uptoBulkAll]
  omega
 obtain⟨x,o1,s1,e1,r1⟩:=val_of_cells (by omega) g1
 refine⟨(i0,x),rfl,⟨s1,?_,r1⟩,o1,Nat.zero_le _⟩
 show _=#[.int .i64 i0]++cellsV x s1
 rw[←e1]
 rfl
theorem triples_of {v:Value} (hN:Rows.uptoBulk d≤1048576) (h:DataW.trod enc Tryz.prog W 0 (λ_=>true) held fuel 22 [v]=some (d,p)) :
    ∃l:List Trip,SlR 18 TrR W (λg=>g<W.heap.size) l v∧(∀x,x∈l→OkT x)∧sumBy (λ_=>0) l<Rows.uptoBulk d∧l.length<Rows.uptoBulk d:=
 slice_of (Q:=OkT) Tryz.underlying22 (by kernel_rfl) (by decide) (λhN h=>tr_el hN h) hN h
end
set_option maxRecDepth 100000 in
theorem script_open {H:Type} {enc:TypeId×Value→H} {W:World} {base:Nat} {v:Value} {d:DataW H} {p:List MemPlace} (hk:Rows.uptoBulk d≤1048576) (hv:Value.okWide Tryz.prog W .any base 49 v)
    (h:DataW.Trod enc Tryz.prog W 0 (λ_=>true) true 49 v d p) :
    ∃(A1 A2 A3:Option Addr) (nL c1 nP c2 nD c3:Nat) (ord:ByteArray) (L P:List Trip) (D:List (Int×Val)),v = .agg #[.slice A1 nL c1,.slice A2 nP c2,.string ord,.slice A3 nD c3]∧(∀t,t∈L→OkT t)∧(∀t,t∈P→OkT t)∧(∀o,o∈D→OkV o.2) ∧
     SRd 18 TrR W (λb=>b<W.heap.size) L A1 nL∧SRd 18 TrR W (λb=>b<W.heap.size) P A2 nP∧SRd 7 OpR W (λb=>b<W.heap.size) D A3 nD∧nL≤100000000∧nP≤100000000∧nD≤100000000∧ord.size≤2000000:=by
 obtain⟨cs,rfl,hsz⟩:=okWide_struct Tryz.underlying49 hv
 obtain⟨fuel,hf⟩:=h
 obtain⟨v0,v1,v2,v3,y0,y1,y2,y3,k,hcs,hxy,g0,g1,g2,g3⟩:=trod_four Tryz.underlying49 (by kernel_rfl) rfl rfl rfl rfl (by kernel_rfl) (by kernel_rfl) (by kernel_rfl) (by kernel_rfl) hf
 obtain⟨y0,p0⟩:=y0
 obtain⟨y1,p1⟩:=y1
 obtain⟨y3,p3⟩:=y3
 obtain⟨s,e2,d2,_⟩:=DataW.trod_string (by kernel_rfl:Tryz.prog.underlying 9=some .string) g2
 injection e2 with e2 _
 subst e2 d2
 simp only at hxy
 subst hxy
 have hss:s.data.toList.length=s.size:=by rw[Array.length_toList];rfl
 simp only[Rows.uptoBulk,Rows.uptoBulkAll]at hk
 obtain⟨L,⟨A1,c1,rfl,_,l1⟩,l2,_,l4⟩:=triples_of (by omega) g0
 obtain⟨P,⟨A2,c2,rfl,_,m1⟩,m2,_,m4⟩:=slice_of (Q:=OkT) (wt:=λ_=>0) (R:=TrR) (N:=1048576) Tryz.underlying46 (by kernel_rfl) (by decide) (λhN h=>pat_el hN h) (by omega) g1
 obtain⟨D,⟨A3,c3,rfl,_,n1⟩,n2,_,n4⟩:=slice_of (Q:=λo:Int×Val=>OkV o.2) (wt:=λ_=>0) (R:=OpR) (N:=1048576) Tryz.underlying47 (by kernel_rfl) (by decide) (λhN h=>op_el hN h) (by omega) g3
 have hcs2:cs.toList=[.slice A1 L.length c1,.slice A2 P.length c2,.string s,.slice A3 D.length c3]:=hcs
 have hcs3:cs=#[.slice A1 L.length c1,.slice A2 P.length c2,.string s,.slice A3 D.length c3]:=by
  rw[←Array.toList_inj,hcs2]
 subst hcs3
 exact⟨A1,A2,A3,L.length,c1,P.length,c2,D.length,c3,s,L,P,D,rfl,l2,m2,n2,l1,m1,n1,by omega,by omega,by omega,by omega⟩
section
variable {H:Type} {enc:TypeId×Value→H} {P:Program}
theorem post_of_below {f:Func} {s:ChangeSpec} {apart fresh handsOn again:Bool} {W W':World} {args:Array Value} {v:Value} {ds gs:List (DataW H)} {before pa pv:List MemPlace}
    (hW:DataW.Whole enc P f.params.toList s.vars apart W args.toList ds gs before)
    (hres:∀(b:Nat) (sp:Nat→Bool) (hd:Bool),DataW.TrodAll enc P W' b sp hd f.resultTypes.toList (v.resultList f.resultTypes.size) (s.fn H (ds++gs)).results [])
    (hargs:∀sp:Nat→Bool,(∀p∈before,sp p.block=true)→DataW.TrodAll enc P W' 0 sp true f.params.toList args.toList (s.fn H (ds++gs)).args pa)
    (hvars:∀sp:Nat→Bool,(∀p∈before,sp p.block=true)→DataW.TrodVars enc P W' sp s.vars (s.fn H (ds++gs)).vars pv)
    (hps:before=pa++pv) (hb:Below W.heap.size W W')
    (hok:∀(j:Nat) (t:TypeId) (r:Value),f.resultTypes[j]?=some t→(v.resultList f.resultTypes.size)[j]?=some r→Value.okWide P W' .any 0 t r) :
    s.post enc P f apart fresh handsOn again W args v W':=by
 have hlt:∀p∈before,p.block<W.heap.size:=λp hp=>hW.lt p hp
 have hold:∀p∈before,(λb=>decide (b<W.heap.size)) p.block=true:=λp hp=>by simpa using hlt p hp
 refine⟨ds,gs,before,[],pa,pv,hW,hres _ _ _,hargs _ hold,hvars _ hold,World.keptBut_mono (λp hp=>⟨hp,?_⟩) (hb.frame (· ∈ before)),λ_=>?_⟩
 ·rw[hps,List.mem_append]at hp
  exact Or.inr hp
 ·obtain⟨_,_,_,_,_,hz,hn⟩:=hW
  refine⟨hok,_,_,([]++pa)++pv,⟨[]++pa,pv,trodAll_append (hargs _ (λ_ _=>rfl)) (hres _ _ _),hvars _ (λ_ _=>rfl),rfl,?_,?_⟩,?_⟩
  ·intro b off hp
   have hin:MemPlace.cell b off∈before:=by rw[hps];simpa using hp
   rw[hb.frozen (hlt _ hin)]
   exact hz b off hin
  ·intro ha
   have:=hn ha
   rw[hps]at this
   simpa using this
  ·intro p hp _
   rw[hps]
   simpa using hp
end
theorem own:ownKnob Tryz.prog.godebug=none:=by kernel_rfl
theorem laidOut:laidOutB Tryz.prog=true:=by kernel_rfl
set_option maxRecDepth 100000 in
theorem glob_of_shape {W:World} (h:W.ShapedOpen Tryz.prog):GlobB W:=
 cell_of_shapedOpen_int (P:=Tryz.prog) (g:=0) (t:=3) (zero:=#[.int .i64 0]) h (of_decide_eq_true (by kernel_rfl)) (by kernel_rfl) rfl (by kernel_rfl) (by kernel_rfl) (by kernel_rfl)
theorem pow10_data {H:Type}:(Rows.laid_internal_strconv_uint64pow10:DataW H)=Lib.tabData .u64 Lib.pow10Tab:=by kernel_rfl
theorem globT_of_laid {W : World} {n1 n2 : String} {d1 d2 : DataW Unit} {rest : List (String × DataW Unit)} (h : laidMet Tryz.prog ((n1, d1) :: (n2, d2) :: ("internal/strconv.uint64pow10", Rows.laid_internal_strconv_uint64pow10) :: rest) W) : GlobT W := by
 have h1:=laidMet.tail (laidMet.tail h)
 rw[pow10_data]at h1
 exact Lib.tabIs_of_head (g:=1) (t:=256) (e:=142) (n:=20) (by kernel_rfl) (by kernel_rfl) (by kernel_rfl) (by kernel_rfl) (by kernel_rfl) (by kernel_rfl) h1
set_option maxRecDepth 100000 in
theorem triplesCursors_contract (H:Type) (enc:TypeId×Value→H) (W:World) (base:Nat) (args:Array Value) (ds gs:List (DataW H)) (before:List MemPlace)
    (hval0:∀(j:Nat) t v,Tryz.f4.params[j]?=some t→args[j]?=some v→Value.okWide Tryz.prog W .any base t v)
    (hW:DataW.Whole enc Tryz.prog Tryz.f4.params.toList Rows.triplesCursorsSpec.vars false W args.toList ds gs before) (hk:Rows.uptoSmall H (ds++gs)=true) (hg:GlobB W) (hgt:GlobT W) :
    Calls Tryz.prog 4 args W λe W'=>∃v,e = .returned v∧Rows.triplesCursorsSpec.post enc Tryz.prog Tryz.f4 false true false false W args v W':=by
 have hval:∀(j:Nat) t v,Tryz.f4.params[j]?=some t→args[j]?=some v→Value.okWide Tryz.prog W .any base t v:=hval0
 have hW':=hW
 obtain⟨p,q,hA0,hV,rfl,hfz,hnd⟩:=hW
 have hA:DataW.TrodAll enc Tryz.prog W 0 (λ_=>true) true Tryz.f4.params.toList args.toList ds p:=hA0
 rw[Tryz.params4]at hA hval
 obtain⟨v,d,rfl,rfl,h0⟩:=trodAll_one hA
 obtain⟨rfl,rfl⟩:=trodVars_none hV
 clear hA0 hval0
 simp only[List.append_nil]at hW' hk
 have hlt:∀x∈p,x.block<W.heap.size:=λx hx=>hW'.lt x hx
 have hbk:Rows.uptoBulkAll [d]≤1048576:=of_decide_eq_true hk
 simp only[Rows.uptoBulkAll]at hbk
 obtain⟨A1,A2,A3,nL,c1,nP,c2,nD,c3,ord,L,P,D,rfl,a1,_,a3,b1,_,b3,n1,_,n3,_⟩:=script_open (by omega) (hval 0 49 v rfl rfl) h0
 refine (cursors_any L a1 D (λo ho=>(a3 o ho).fit) _ A1 A2 A3 nL nP nD c1 c2 c3 ord W (λ_ h=>h) b1 b3 (by omega) (by omega) hg hgt).mono λe W' ⟨he,hg⟩=>?_
 subst he
 exact⟨_,rfl,post_of_below (pa:=p) (pv:=[]) hW' (λ_ _ _=>(trodAll_cons_mk (shut_bool Tryz.underlying4 _) trodAll_mk0))
  (λsp hsp=>trodAll_mk1 (WideElems.Trod_stays laidOut (by kernel_rfl) (of_decide_eq_true (by kernel_rfl)) h0 (λx hx=>hg.same (hlt x hx)) hsp)) (λ_ _=>rfl) (by simp)
  hg (ok_one (by kernel_rfl) rfl (okWide_bool_mk Tryz.underlying4 _))⟩
set_option maxRecDepth 100000 in
theorem triplesCursors_lifted (os:Os) (started:os.Started) (H:Type) (enc:TypeId×Value→H) (F:Stop.Interp) :
    ReturnsInHanded {} Tryz.checked os 4 .any ((Rows.OpenSpec.upto Rows.triplesCursorsSpec).preRow enc Tryz.prog Tryz.f4 Rows.triplesCursorsUptoRow.domain false Rows.triplesCursorsUptoRow.laid) (((Rows.OpenSpec.upto Rows.triplesCursorsSpec).at F).post enc Tryz.prog Tryz.f4 false true false false):=by
 have hx:∃places,DataW.whole enc Tryz.prog ((World.laidAll Tryz.prog os Rows.triplesCursorsUptoRow.laid).forCall (λ_ _=>0) ⟨#[],#[.agg #[.slice none 0 0,.slice none 0 0,.string ⟨#[]⟩,.slice none 0 0]],[]⟩).memory Tryz.f4.params.toList Rows.triplesCursorsSpec.vars false #[.agg #[.slice none 0 0,.slice none 0 0,.string ⟨#[]⟩,.slice none 0 0]].toList 8=some ([.agg [.nil,.nil,.lit (.string []),.nil]],[],places):=⟨[],by kernel_rfl⟩
 obtain⟨places,hx⟩:=hx
 refine returnsInHanded_of_row (C:=Tryz.checked) (s:=Rows.OpenSpec.upto Rows.triplesCursorsSpec) own started (by kernel_rfl) Tryz.func4
  (witness_row_at (enc:=enc) (C:=Tryz.checked) false (World.laidAll Tryz.prog os Rows.triplesCursorsUptoRow.laid) #[.agg #[.slice none 0 0,.slice none 0 0,.string ⟨#[]⟩,.slice none 0 0]] (World.laidAll_os _ _ _) (by kernel_rfl) (by kernel_rfl) (by kernel_rfl)
   (OpenSpec.preRow_of_cond 8 hx (by kernel_rfl) (λk hk=>by cases hk;kernel_rfl) (by kernel_rfl) (laidMet_laidAll _ (by kernel_rfl) (by kernel_rfl)))) ?_
 intro W base args ds gs before hval hW _ hcond _ hL hsh _
 exact triplesCursors_contract H enc W base args ds gs before hval hW (hcond _ rfl) (glob_of_shape hsh) (globT_of_laid hL)
theorem triplesCursors_holds:Rows.TriplesCursorsUptoSaid:=
 OpenClaim.holds_of_cond 4 Tryz.f4 rfl rfl rfl rfl rfl rfl rfl ⟨rfl,rfl,rfl,rfl,rfl⟩ rfl rfl rfl rfl rfl (by kernel_rfl) Tryz.func4 (by kernel_rfl)
  (of_decide_eq_true (by kernel_rfl)) (by unfold Func.isWrapper;first | (rw[if_pos (by decide +kernel)];kernel_rfl) | (rw[if_neg (by decide +kernel)];exact⟨rfl,rfl⟩))
  (λos started H enc _ F=>by rw[OpenClaim.pre_eq_preRow];exact triplesCursors_lifted os started H enc F)
theorem triplesCursors_card:Rows.TriplesCursorsUptoCardSaid:=
 Claim7.holds_tied_plain_at .later [] _ _ _ _ triplesCursors_holds (λ_ h=>by cases h) (by kernel_rfl) (λ_ h=>by cases h) triplesCursorsUpto_row_tie rfl ⟨rfl,rfl⟩ (by kernel_rfl) rfl
  (λf fn hf hfn=>by
   obtain rfl : f = 4 := Option.some.inj ((show Tryz.prog.funcNamed "diptych/diptychlaw5.TriplesCursors" = some 4 by kernel_rfl).symm.trans hf) |>.symm
   obtain rfl:fn=Tryz.f4:=(Option.some.inj (Tryz.func4.symm.trans hfn)).symm
   exact⟨by kernel_rfl,λj t ht=>by
    rw[Tryz.params4]at ht
    have hm:t∈[49]:=by simpa using Array.mem_of_getElem? ht
    have hall:([49].all λu=>!Tryz.prog.wantsStandIn u)=true:=by kernel_rfl
    exact (show Tryz.prog.wantsStandIn t=false by simpa using List.all_eq_true.1 hall t hm)⟩)
  (by kernel_rfl)
end Go.Proofs.YtijciakkfpjjbaaGreatDoor
