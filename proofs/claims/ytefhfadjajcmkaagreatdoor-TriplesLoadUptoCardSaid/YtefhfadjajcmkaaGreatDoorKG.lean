/- The program's Same of a value that is no list. -/
import Derived.Test.YtefhfadjajcmkaaGreatDoorKF
import Derived.Test.YtefhfadjajcmkaaGreatDoorK8
set_option linter.unusedVariables false
set_option linter.unusedSimpArgs false
namespace Go.Proofs.YtefhfadjajcmkaaGreatDoor
open Go Go.RowKit Go.Maps
open Go.Lib (hid cell_of_heap)
def FindIs (m:Nat) (w:World) (e:Ending) (w':World):Prop:=e = .returned (.int .i64 (m:Nat))∧Below w.heap.size w w'
theorem und_ints:Tryz.prog.underlying 94=some (.slice (Tryz.prog.elem 94)):=by kernel_rfl
theorem sizeOf_ints (W:World):(sizeOf (Tryz.prog.elem 94)).run Tryz.prog W = .ok 1 W:=by kernel_rfl
theorem row_part {F:Nat→Prop} {w:World} {l:List Nat} {s:Value} (h:RowI F w l s) {a b:Nat} (hab:a≤b) (hb:b≤l.length) :
    ∃A' n' c',(∀W,(Instr.sliceAt 94 s (some (.int .i64 (a:Nat))) (some (.int .i64 (b:Nat))) none).run Tryz.prog W = .ok (.slice A' n' c') W)∧∀w',RowI F w' l s→RowI F w' ((l.take b).drop a) (.slice A' n' c'):=by
 obtain⟨A,cap,rfl,hc,hr⟩:=h
 have hlen:((l.take b).drop a).length=b-a:=by rw[List.length_drop,List.length_take,Nat.min_eq_left hb]
 refine⟨if cap=a then A else A.map (·.add (a*1)),b-a,cap-a,λW=>?_,λw' h'=>⟨_,_,by rw[hlen],by omega,λh0=>?_⟩⟩
 ·rw[run_sliceAt_slice (h:=und_ints),run_slice_lh (ht:=und_ints) (h0:=by omega) (h1:=by omega) (h2:=by omega),sizeOf_ints W]
  rfl
 ·obtain⟨A',cap',e1,_,hr'⟩:=h'
  injection e1 with e1 _ _
  obtain⟨r,o,e2,hF,hx⟩:=hr' (by omega)
  rw[←e1]at e2
  subst e2
  refine⟨r,o+a,?_,hF,λi k hi=>?_⟩
  ·rw[if_neg (by omega)]
   show some (Addr.add ⟨r,o,none⟩ (a*1))=_
   rw[Nat.mul_one,Addr.add_mid]
  ·rw[List.getElem?_drop,List.getElem?_take]at hi
   split at hi
   ·rw[Nat.add_assoc]
    exact hx (a+i) k hi
   ·cases hi
section
variable {F:Nat→Prop} {c:Nat} {T:List Trip} {l:List Nat} {cs:Nat→Array Value} {S s:Value} {b1 b2 b3 b4 p:Nat} {P:Trip} {ps:Nat→Value} {w w':World}
theorem find_lo (h:NeaV F c T l cs S s b1 b2 b3 b4 p P ps w) (hp:p<3) (hs:∀t,t∈T→ScalT t) (hf:∀t,t∈T→∀n,FitV (t.get n)) (fb:∀n,FitV (P.get n)) (hgb:GlobB w) (hgt:GlobT w) (hl:l.length≤65536)
    (cf:Nat→Int) (hcf:∀n t,T[n]?=some t→cf n=ordV (t.get p) (P.get p)) (hm:l.Pairwise λa b=>cf a≤cf b) :
    Calls Tryz.prog 120 #[.int .i64 (l.length:Nat),.func (.func 121) #[] #[.pointer (some ⟨b1,0,none⟩),.pointer (some ⟨b2,0,none⟩),.pointer (some ⟨b3,0,none⟩),.pointer (some ⟨b4,0,none⟩)]] w (FindIs (l.countP λx=>!decide (0≤cf x)) w):=by
 refine (Any.sort_Search Tryz.searchL 121 #[.pointer (some ⟨b1,0,none⟩),.pointer (some ⟨b2,0,none⟩),.pointer (some ⟨b3,0,none⟩),.pointer (some ⟨b4,0,none⟩)] l.length (λi=>(λx=>decide (0≤cf x)) (l.getD i 0)) w (enters_of Tryz.func121 (by kernel_rfl) rfl) (by omega) (λm os i hi=>?_) (λi i' h1 h2 h3=>?_)).mono λe w' ⟨he,q,os,hw⟩=>⟨?_,?_⟩
 ·have hbg:=below_grow w m os
  obtain⟨k,hk⟩:∃k,l[i]?=some k:=⟨_,List.getElem?_eq_getElem hi⟩
  have hkT:=h.r.lt k (List.mem_of_getElem? hk)
  obtain⟨t,ht⟩:∃t,T[k]?=some t:=⟨_,List.getElem?_eq_getElem hkT⟩
  have htm:=List.mem_of_getElem? ht
  have ek:l.getD i 0=k:=by rw[List.getD_eq_getElem?_getD,hk];rfl
  refine (Dn.calls_drawn (near_lo (h.on hbg) hp i k t hk ht ⟨((hs t htm).get p).2.1,hf t htm p⟩ (fb p) (glob_under hgb hbg) (globT_under hgt hbg))).mono λe w' ⟨⟨he,hbw⟩,hdr⟩=>⟨?_,?_⟩
  ·rw[he]
   dsimp only
   rw[ek,hcf k t ht]
  ·exact Dn.grow_of_below hbw (hdr (by rw[he];exact λh=>by cases h))
 ·dsimp only at h3 ⊢
  have hi:i<l.length:=by omega
  have e1:l.getD i 0=l[i]:=by rw[List.getD_eq_getElem?_getD,List.getElem?_eq_getElem hi];rfl
  have e2:l.getD i' 0=l[i']:=by rw[List.getD_eq_getElem?_getD,List.getElem?_eq_getElem h2];rfl
  rw[e1]at h3
  rw[e2]
  have h3:=of_decide_eq_true h3
  refine decide_eq_true ?_
  rcases Nat.lt_or_eq_of_le h1 with h4 | h4
  ·have:=List.pairwise_iff_getElem.1 hm i i' hi h2 h4
   omega
  ·subst h4;exact h3
 ·rw[he,countP_range (λx=>!decide (0≤cf x)) l (λi=>!(λx=>decide (0≤cf x)) (l.getD i 0)) (λi x hx=>by dsimp only;rw[List.getD_eq_getElem?_getD,hx];rfl)]
 ·rw[hw]
  exact below_grow w q os
theorem find_hi (h:NeaV F c T l cs S s b1 b2 b3 b4 p P ps w) (hp:p<3) (hs:∀t,t∈T→ScalT t) (hf:∀t,t∈T→∀n,FitV (t.get n)) (fb:∀n,FitV (P.get n)) (hgb:GlobB w) (hgt:GlobT w) (hl:l.length≤65536)
    (cf:Nat→Int) (hcf:∀n t,T[n]?=some t→cf n=ordV (t.get p) (P.get p)) (hm:l.Pairwise λa b=>cf a≤cf b) :
    Calls Tryz.prog 120 #[.int .i64 (l.length:Nat),.func (.func 122) #[] #[.pointer (some ⟨b1,0,none⟩),.pointer (some ⟨b2,0,none⟩),.pointer (some ⟨b3,0,none⟩),.pointer (some ⟨b4,0,none⟩)]] w (FindIs (l.countP λx=>!decide (0<cf x)) w):=by
 refine (Any.sort_Search Tryz.searchL 122 #[.pointer (some ⟨b1,0,none⟩),.pointer (some ⟨b2,0,none⟩),.pointer (some ⟨b3,0,none⟩),.pointer (some ⟨b4,0,none⟩)] l.length (λi=>(λx=>decide (0<cf x)) (l.getD i 0)) w (enters_of Tryz.func122 (by kernel_rfl) rfl) (by omega) (λm os i hi=>?_) (λi i' h1 h2 h3=>?_)).mono λe w' ⟨he,q,os,hw⟩=>⟨?_,?_⟩
 ·have hbg:=below_grow w m os
  obtain⟨k,hk⟩:∃k,l[i]?=some k:=⟨_,List.getElem?_eq_getElem hi⟩
  have hkT:=h.r.lt k (List.mem_of_getElem? hk)
  obtain⟨t,ht⟩:∃t,T[k]?=some t:=⟨_,List.getElem?_eq_getElem hkT⟩
  have htm:=List.mem_of_getElem? ht
  have ek:l.getD i 0=k:=by rw[List.getD_eq_getElem?_getD,hk];rfl
  refine (Dn.calls_drawn (near_hi (h.on hbg) hp i k t hk ht ⟨((hs t htm).get p).2.1,hf t htm p⟩ (fb p) (glob_under hgb hbg) (globT_under hgt hbg))).mono λe w' ⟨⟨he,hbw⟩,hdr⟩=>⟨?_,?_⟩
  ·rw[he]
   dsimp only
   rw[ek,hcf k t ht]
  ·exact Dn.grow_of_below hbw (hdr (by rw[he];exact λh=>by cases h))
 ·dsimp only at h3 ⊢
  have hi:i<l.length:=by omega
  have e1:l.getD i 0=l[i]:=by rw[List.getD_eq_getElem?_getD,List.getElem?_eq_getElem hi];rfl
  have e2:l.getD i' 0=l[i']:=by rw[List.getD_eq_getElem?_getD,List.getElem?_eq_getElem h2];rfl
  rw[e1]at h3
  rw[e2]
  have h3:=of_decide_eq_true h3
  refine decide_eq_true ?_
  rcases Nat.lt_or_eq_of_le h1 with h4 | h4
  ·have:=List.pairwise_iff_getElem.1 hm i i' hi h2 h4
   omega
  ·subst h4;exact h3
 ·rw[he,countP_range (λx=>!decide (0<cf x)) l (λi=>!(λx=>decide (0<cf x)) (l.getD i 0)) (λi x hx=>by dsimp only;rw[List.getD_eq_getElem?_getD,hx];rfl)]
 ·rw[hw]
  exact below_grow w q os
end
def NearIs (F:Nat→Prop) (T:List Trip) (P:Trip) (w:World) (e:Ending) (w':World):Prop:=
 ∃l sl,e = .returned sl∧NearOf T P l∧RowI F w' l sl∧Below w.heap.size w w'
structure NeaL (F:Nat→Prop) (c:Nat) (T:List Trip) (cs:Nat→Array Value) (S:Value) (z z8:Nat) (P:Trip) (ps:Nat→Value) (j:Nat) (w0:World) (e:Nat) (l:List Nat) (s:Value) (wx:World):Prop where
 r:NeaR F c T l cs S s wx
 v1:wx.cell? ⟨z,0,none⟩=some (.pointer (some ⟨c,0,none⟩))
 v2:wx.heap[z8]?=some (.cells #[s] 94 (0,0))
 v4:wx.heap[z+1]?=some (.cells (cellsT P ps) 99 (0,0))
 hb:Below w0.heap.size w0 wx
 mid:MidOf (wayN j) T P e l
 z8z:w0.heap.size≤z8∧z8≠z∧z8≠z+1
 ll:l.length≤65536
theorem NeaL.next {F:Nat→Prop} {c:Nat} {T:List Trip} {cs:Nat→Array Value} {S:Value} {z z8:Nat} {P:Trip} {ps:Nat→Value} {j:Nat} {w0:World} {e:Nat} {l:List Nat} {s:Value} {wx w8:World} (h:NeaL F c T cs S z z8 P ps j w0 e l s wx) (hF:∀b,F b→b<w0.heap.size) (hb:Below wx.heap.size wx w8) {e':Nat} {l':List Nat} {s':Value}
    (hm:MidOf (wayN j) T P e' l') (hr:∀w',RowI F w' l s→RowI F w' l' s') (hl:l'.length≤l.length):NeaL F c T cs S z z8 P ps j w0 e' l' s' (w8.setCell ⟨z8,0,none⟩ s'):=by
 have ht:=(Turn.refl (λb=>b=z8) w8).setCell (p:=⟨z8,0,none⟩) (.inr rfl) s'
 have hr8:=(h.r.on hb).turn ht (λb hb2 e=>by have:=hF b hb2;have:=h.z8z.1;omega)
 have v2:=(hb.block z8 (blk_lt h.v2)).trans h.v2
 have v1:=(hb.cell (p:=⟨z,0,none⟩) (cell_blk h.v1)).trans h.v1
 have v4:=(hb.block (z+1) (blk_lt h.v4)).trans h.v4
 have hb8:=h.hb.trans (hb.mono h.hb.size)
 refine⟨⟨hr8.st,hr8.row,hr _ hr8.nums,hm.lt,hr8.fc,hr8.fl⟩,?_,heap_setCell_same w8 z8 0 _ _ s' v2,ht.heap v4 (λe=>h.z8z.2.2 e.symm),hb8.trans ⟨ht.os,ht.tape,ht.output,ht.size,λk hk=>ht.block k (Nat.lt_of_lt_of_le hk hb8.size) (λe=>by have:=h.z8z.1;omega)⟩,hm,h.z8z,Nat.le_trans hl h.ll⟩
 exact (World.cell?_of_block (a:=⟨z,0,none⟩) (ht.block z (cell_blk v1) (λe=>h.z8z.2.1 e.symm))).trans v1
theorem max_nat {a b:Nat} (h:a≤b):max (a:Int) (b:Int)=(b:Nat):=by omega
theorem build_three (b0 b1 b2:Bool) (W:World):(Instr.build 181 #[(0,.bool b0),(1,.bool b1),(2,.bool b2)]).run Tryz.prog W = .ok (.agg #[.bool b0,.bool b1,.bool b2]) W:=by kernel_rfl
theorem idx_wayC (j e:Nat) (he:e<3) (W:World):(Instr.index 101 (.agg (wayC (wayN j))) (.int .i64 (e:Nat))).run Tryz.prog W = .ok (.int .i64 ((wayN j).get e:Nat)) W:=by
 rcases (show e=0∨e=1∨e=2 by omega) with rfl | rfl | rfl<;>kernel_rfl
set_option maxRecDepth 100000 in
set_option maxHeartbeats 8000000 in
theorem near_any {F:Nat→Prop} {c:Nat} {T:List Trip} {w:World} (h:StoreAt F w c T) (hF:∀b,F b→b<w.heap.size) (P:Trip) (ps:Nat→Value) (fb:∀n,FitV (P.get n)) (hgb:GlobB w) (hgt:GlobT w) :
    Calls Tryz.prog 60 #[.pointer (some ⟨c,0,none⟩),.agg (cellsT P ps)] w (NearIs F T P w):=by
 obtain⟨S,ss,cs,h1,h2,h3⟩:=h.cells
 have HH:=hid h
 have HF:=hid hF
 have HST:=hid (And.intro h1 (And.intro h2 h3))
 have HFB:=hid fb
 have HG:=hid (And.intro hgb hgt)
 clear h1 h2 h3 h hF fb hgb hgt
 obtain⟨c8,Hc8⟩:=name18 P ps
 obtain⟨z,Hz⟩:=name_itV w.heap.size
 obtain⟨w1,HW1⟩:=name_itV ((w.alloc (.cells #[.pointer (some ⟨c,0,none⟩)] 29)).alloc (.cells c8 99))
 have HB1:=hid (show Below w.heap.size w w1 from by rw[←HW1.out];exact two_new w _ _)
 have HA1:=hid (show w1.heap[z]?=some (.cells #[.pointer (some ⟨c,0,none⟩)] 29 (0,0)) from by rw[←HW1.out,←Hz.out];exact heap_alloc2_old w _ _)
 have HP1:=hid (show w1.heap[z+1]?=some (.cells c8 99 (0,0)) from by rw[←HW1.out,←Hz.out];exact heap_alloc2_new w _ _)
 have HPV:=hid (show w1.heap[z+1]?=some (.cells (cellsT P ps) 99 (0,0)) from by rw[Hc8.out];exact HP1.out)
 have q0:w1.cell? ⟨z+1,0,none⟩=some (.int .i64 (P.get 0).kind):=cell_of_heap HPV.out 0
 have q1:w1.cell? ⟨z+1,6,none⟩=some (.int .i64 (P.get 1).kind):=cell_of_heap HPV.out 6
 have q2:w1.cell? ⟨z+1,12,none⟩=some (.int .i64 (P.get 2).kind):=cell_of_heap HPV.out 12
 obtain⟨k0,Hk0⟩:=name_itV (P.get 0).kind
 obtain⟨k1,Hk1⟩:=name_itV (P.get 1).kind
 obtain⟨k2,Hk2⟩:=name_itV (P.get 2).kind
 rw[Hk0.out]at q0
 rw[Hk1.out]at q1
 rw[Hk2.out]at q2
 have HQ:=hid (And.intro q0 (And.intro q1 q2))
 clear q0 q1 q2
 rw[Hc8.out]
 go_enter Tryz.func60,Tryz.ntmps60
 go_upto_region 2 with fail
 rw[HW1.out,Hz.out]
 clear HW1
 obtain⟨b0,B0⟩:=name_itV (k0 != 0)
 obtain⟨b1,B1⟩:=name_itV (k1 != 0)
 obtain⟨b2,B2⟩:=name_itV (k2 != 0)
 have q0:=HQ.out.1
 have q1:=HQ.out.2.1
 have q2:=HQ.out.2.2
 have hb0:=B0.out
 have hb1:=B1.out
 have hb2:=B2.out
 obtain⟨z6,Hz6⟩:=name_itV w1.heap.size
 have HB6:=hid (show (w1.alloc (.cells #[.bool false,.bool false,.bool false] 181)).heap[z6]?=some (.cells #[.bool false,.bool false,.bool false] 181 (0,0)) from by rw[←Hz6.out];exact heap_alloc_new w1 _)
 go_upto_block 0 with (first
  | ((with_reducible refine at_dst (some 27) ?_);refine build_arm rfl 181 _ rfl #[(0,.bool b0),(1,.bool b1),(2,.bool b2)] rfl (.agg #[.bool b0,.bool b1,.bool b2]) (build_three b0 b1 b2 _) ?_)
  | ((with_reducible refine at_st 6 ?_);refine st_row rfl 181 _ _ rfl z6 (#[.bool false,.bool false,.bool false]) #[.bool b0,.bool b1,.bool b2] 181 (by rw[←Hz6.out];rfl) rfl HB6.out rfl (by kernel_rfl) (by kernel_rfl) ?_;intro w2 hw2 ht2))
 rw[Hz6.out]
 have HB2:=hid (HB1.out.trans ((box_below (w5:=w2) (by rw[Hz6.out];exact ht2)).mono HB1.out.size))
 have HBX:=hid (show Below w1.heap.size w1 w2 from box_below (w5:=w2) (by rw[Hz6.out];exact ht2))
 have HBB:=hid hw2
 clear hw2 ht2 HB6 q0 q1 q2 hb0 hb1 hb2 HQ
 simp only[Act.put]
 go_cut [5] (λs5 wx=>∃j:Nat,j<6∧s5 = .string (wayT j)∧wx=w2)
 case first=>
  have a0:w2.cell? ⟨z6,0,none⟩=some (.bool b0):=cell_of_heap HBB.out 0
  have a1:w2.cell? ⟨z6,1,none⟩=some (.bool b1):=cell_of_heap HBB.out 1
  have a2:w2.cell? ⟨z6,2,none⟩=some (.bool b2):=cell_of_heap HBB.out 2
  cases b0<;>cases b1<;>cases b2
  all_goals go_wp2_with fail
  all_goals first
   | (go_meet;exact⟨0,by omega,rfl,rfl⟩)
   | (go_meet;exact⟨1,by omega,rfl,rfl⟩)
   | (go_meet;exact⟨2,by omega,rfl,rfl⟩)
   | (go_meet;exact⟨3,by omega,rfl,rfl⟩)
   | (go_meet;exact⟨4,by omega,rfl,rfl⟩)
 case rest=>
  obtain⟨j,hj,rfl,rfl⟩:=hcut
  have HJ:=hid hj
  clear hj
  go_wp2_with fail
  refine (way_any j HJ.out _).mono ?_
  unfold WayIs
  rintro e w3 ⟨rfl,hb3⟩
  have HB3:=hid (HB2.out.trans (hb3.mono HB2.out.size))
  have HB3':=hid (HBX.out.trans (hb3.mono HBX.out.size))
  clear hb3
  obtain⟨wq,Hwq⟩:=name_itV (wayC (wayN j))
  have ZQ:=hid (show wq.size=3 from by rw[←Hwq.out];rfl)
  have ONQ:=hid (show wq.all (·.oneCell')=true from by rw[←Hwq.out];kernel_rfl)
  rw[Hwq.out]
  obtain⟨zq,Hzq⟩:=name_itV w3.heap.size
  have HBQ:=hid (show (w3.alloc (.cells #[.int .i64 0,.int .i64 0,.int .i64 0] 101)).heap[zq]?=some (.cells #[.int .i64 0,.int .i64 0,.int .i64 0] 101 (0,0)) from by rw[←Hzq.out];exact heap_alloc_new w3 _)
  have HIQ:=hid (show (Tryz.prog.info? 101).map (·.size)=some wq.size from by rw[ZQ.out];kernel_rfl)
  go_upto_region 12 with ((with_reducible refine at_st 7 ?_);refine st_row rfl 101 _ _ rfl zq (#[.int .i64 0,.int .i64 0,.int .i64 0]) wq 101 (by rw[←Hzq.out];rfl) rfl HBQ.out ZQ.out HIQ.out ONQ.out ?_;intro w4 hw4 ht4)
  rw[Hzq.out]
  have HX4:=hid (show Below w3.heap.size w3 w4 from box_below (w5:=w4) (by rw[Hzq.out];exact ht4))
  have HB4:=hid (HB3.out.trans (HX4.out.mono HB3.out.size))
  have HB4':=hid (HB3'.out.trans (HX4.out.mono HB3'.out.size))
  have HQ4:=hid hw4
  clear hw4 ht4 HBQ
  obtain⟨ix,hix,hri⟩:=HST.out.2.2 j HJ.out
  obtain⟨A2,cap2,es,_,_⟩:=id hri
  obtain⟨M,hM⟩:=name_itV ix.length
  rw[hM.out]at es
  have HC4:=hid (show w4.heap[c]?=some (.cells #[S,ss 0,ss 1,ss 2,ss 3,ss 4,ss 5] 97 (0,0)) from (HB4.out.block c (HF.out c HH.out.fc)).trans HST.out.1)
  have q0:w4.cell? ⟨c,1+j,none⟩=some (.slice A2 M cap2):=by
   rw[←es]
   rcases (show j=0∨j=1∨j=2∨j=3∨j=4∨j=5 by have:=HJ.out;omega) with rfl | rfl | rfl | rfl | rfl | rfl<;>exact cell_of_heap HC4.out _
  have HA4:=hid ((HB4'.out.block z (blk_lt HA1.out)).trans HA1.out)
  have q1:w4.cell? ⟨z,0,none⟩=some (.pointer (some ⟨c,0,none⟩)):=cell_of_heap HA4.out 0
  obtain⟨z8,Hz8⟩:=name_itV w4.heap.size
  obtain⟨w5,HW5⟩:=name_itV (w4.alloc (.cells #[.slice A2 M cap2] 94))
  have HX5:=hid (show Below w4.heap.size w4 w5 from by rw[←HW5.out];exact (Below.refl _ _).alloc (Nat.le_refl _) _)
  have HB5:=hid (HB4.out.trans (HX5.out.mono HB4.out.size))
  have HS5:=hid (show w5.heap[z8]?=some (.cells #[.slice A2 M cap2] 94 (0,0)) from by rw[←HW5.out,←Hz8.out];exact heap_alloc_new w4 _)
  have HSX:=hid (λW=>idx_six c j HJ.out W)
  go_upto_region 13 with ((with_reducible refine at_dst (some 78) ?_);refine val_arm rfl (.pointer (some ⟨c,1+j,none⟩)) (val_of (HSX.out _)) ?_)
  rw[Hz8.out,HW5.out]
  clear HW5 q0 q1 HSX
  have hzz:w4.heap.size=z8:=Hz8.out
  have hz1:=blk_lt HA1.out
  have hz2:=blk_lt HP1.out
  have hz3:=HB4'.out.size
  have HQ5:=hid ((HX5.out.block zq (blk_lt HQ4.out)).trans HQ4.out)
  have HL5:=hid (show NeaL F c T cs S z z8 P ps j w 0 ix (.slice A2 M cap2) w5 from by
   have hk:∀b,F b→w5.heap[b]?=w.heap[b]?:=λb hb=>HB5.out.block b (HF.out b hb)
   refine⟨⟨?_,HST.out.2.1.keep λp hp=>World.cell?_of_block (hk _ hp),?_,λn hn=>hix.lt hn,HH.out.fc,λb hb=>Nat.lt_of_lt_of_le (HF.out b hb) HB5.out.size⟩,?_,HS5.out,?_,HB5.out,MidOf.start hix P,⟨?_,by omega,by omega⟩,?_⟩
   ·exact cell_of_heap ((HX5.out.block c (blk_lt HC4.out)).trans HC4.out) 0
   ·rw[←es]
    exact hri.keep λp hp=>World.cell?_of_block (hk _ hp)
   ·exact cell_of_heap ((HX5.out.block z (blk_lt HA4.out)).trans HA4.out) 0
   ·exact ((HB4'.out.trans (HX5.out.mono HB4'.out.size)).block (z+1) hz2).trans HPV.out
   ·have:=HB4.out.size
    omega
   ·rw[hix.len]
    exact HH.out.len)
  clear hix hri es hM hzz hz1 hz2 hz3 HS5 HX5 HB4 HB4' HX4 HB3 HB3' HC4 HA4
  go_upto_region 14 with ((with_reducible refine at_dst (some 80) ?_);refine ld_arm rfl 101 _ rfl zq 0 rfl wq _ (range_row HQ5.out) Tryz.underlying101 rfl HIQ.out ?_)
  go_loopw [81] (λs wx=>∃(e:Nat) (l:List Nat) (sl:Value),e≤3∧s = .int .i64 (e:Nat)∧Hid (NeaL F c T cs S z z8 P ps j w e l sl wx)) (λs _=>3-(intOf s).toNat)
  case atStart=>exact⟨0,ix,_,by omega,rfl,HL5⟩
  case round=>
   obtain⟨e,l,sl,he,rfl,hM⟩:=hrel
   obtain⟨A,cap,rfl,hcap,_⟩:=id hM.out.r.nums
   have HFIN:=hid (show NearIs F T P w (.returned (.slice A l.length cap)) wr from ⟨l,_,rfl,hM.out.mid.near,hM.out.r.nums,hM.out.hb⟩)
   have HSB:=hid (show wr.cell? ⟨z8,0,none⟩=some (.slice A l.length cap) from cell_of_heap hM.out.v2 0)
   by_cases he3:e<3
   ·have HE:=hid he3
    have HWL:=hid ((wayN_ok j).lt e)
    have HIX:=hid (λW=>idx_wayC j e HE.out W)
    obtain⟨p,HP⟩:=name_itV ((wayN j).get e)
    rw[HP.out]at HIX HWL
    rw[Hwq.out]at HIX
    have e1:(e:Int)<3:=by omega
    obtain⟨zk,Hzk⟩:=name_itV wr.heap.size
    obtain⟨w6,HW6⟩:=name_itV (wr.alloc (.cells #[.int .i64 (p:Nat)] 3))
    have HB6:=hid (show Below wr.heap.size wr w6 from by rw[←HW6.out];exact (Below.refl _ _).alloc (Nat.le_refl _) _)
    have HK6:=hid (show w6.heap[zk]?=some (.cells #[.int .i64 (p:Nat)] 3 (0,0)) from by rw[←HW6.out,←Hzk.out];exact heap_alloc_new wr _)
    go_upto_region 16 with ((with_reducible refine at_dst (some 83) ?_);refine val_arm rfl (.int .i64 (p:Nat)) (val_of (HIX.out _)) ?_)
    rw[Hzk.out,HW6.out]
    clear HW6 e1
    have HV:=hid (show NeaV F c T l cs S (.slice A l.length cap) z z8 zk (z+1) p P ps w6 from
     ⟨hM.out.r.on HB6.out,(HB6.out.cell (p:=⟨z,0,none⟩) (cell_blk hM.out.v1)).trans hM.out.v1,(HB6.out.cell (p:=⟨z8,0,none⟩) (cell_blk HSB.out)).trans HSB.out,cell_of_heap HK6.out 0,(HB6.out.block (z+1) (blk_lt hM.out.v4)).trans hM.out.v4⟩)
    have HBW6:=hid (hM.out.hb.trans (HB6.out.mono hM.out.hb.size))
    have HFIN6:=hid (show NearIs F T P w (.returned (.slice A l.length cap)) w6 from ⟨l,_,rfl,hM.out.mid.near,(hM.out.r.on HB6.out).nums,HBW6.out⟩)
    have HID:=hid (λW=>(show (Instr.indexAt 99 (.pointer (some ⟨z+1,0,none⟩)) (.int .i64 (p:Nat))).run Tryz.prog W = .ok (.pointer (some ⟨z+1,p*6,none⟩)) W from by
     have q9:=idx_parto (z+1) 0 p HWL.out W
     rwa [Nat.zero_add]at q9))
    obtain⟨kd,Hkd⟩:=name_itV (P.get p).kind
    have HKC:=hid (λ(W:World) (hv:W.heap[z+1]?=some (.cells (cellsT P ps) 99 (0,0)))=>(show W.cell? ⟨z+1,p*6,none⟩=some (.int .i64 kd) from by
     have:=part_at hv HWL.out 0 (.int .i64 (P.get p).kind) rfl
     rw[Nat.add_zero,Hkd.out]at this
     exact this))
    have q3:=HV.out.v3
    have q4:=HKC.out w6 HV.out.v4
    have q5:=HV.out.v2
    obtain⟨kp,Hkp⟩:=name_itV (p*6)
    rw[Hkp.out]at HID q4
    by_cases hk0:kd=0
    ·subst hk0
     go_wp2_with ((with_reducible refine at_dst (some 85) ?_);refine val_arm rfl (.pointer (some ⟨z+1,kp,none⟩)) (val_of (HID.out _)) ?_)
     go_ret
     exact HFIN6.out
    ·have hkb:(kd==0)=false:=by rw[beq_eq_false_iff_ne];exact hk0
     have HK0:=hid hk0
     go_upto_region 17 with ((with_reducible refine at_dst (some 85) ?_);refine val_arm rfl (.pointer (some ⟨z+1,kp,none⟩)) (val_of (HID.out _)) ?_)
     clear q4 hkb hk0 q3 q5
     have HLL:=hid hM.out.ll
     let cf:Nat→Int:=λn=>ordV ((T.getD n tripB).get p) (P.get p)
     have hcf:∀n t,T[n]?=some t→cf n=ordV (t.get p) (P.get p):=λn t ht=>by
      show ordV ((T.getD n tripB).get p) (P.get p)=_
      rw[List.getD_eq_getElem?_getD,ht]
      rfl
     have hmn:l.Pairwise λa b=>cf a≤cf b:=hM.out.mid.mono HE.out cf (by rw[HP.out];exact hcf)
     have hnx:=hM.out.mid.next (wayN_ok j) (by rw[HP.out,Hkd.out];exact HK0.out) cf (by rw[HP.out];exact hcf)
     have hnw:=narrow_is cf l hmn
     have hfl:=λ(W:World) (hv:NeaV F c T l cs S (.slice A l.length cap) z z8 zk (z+1) p P ps W) (hb:Below w.heap.size w W)=>find_lo hv HWL.out HH.out.scal HH.out.fit HFB.out (glob_under HG.out.1 hb) (globT_under HG.out.2 hb) HLL.out cf hcf hmn
     have hfh:=λ(W:World) (hv:NeaV F c T l cs S (.slice A l.length cap) z z8 zk (z+1) p P ps W) (hb:Below w.heap.size w W)=>find_hi hv HWL.out HH.out.scal HH.out.fit HFB.out (glob_under HG.out.1 hb) (globT_under HG.out.2 hb) HLL.out cf hcf hmn
     obtain⟨lo,Hlo⟩:=name_itV (l.countP λx=>!decide (0≤cf x))
     obtain⟨hi,Hhi⟩:=name_itV (l.countP λx=>!decide (0<cf x))
     rw[Hlo.out]at hfl hnw
     rw[Hhi.out]at hfh hnw
     obtain⟨hlh,hhl,hpt⟩:=hnw
     rw[←hpt]at hnx
     obtain⟨A9,n9,c9,hs2,hr2⟩:=row_part hM.out.r.nums hlh hhl
     have HFL:=hid hfl
     have HFH:=hid hfh
     have HNX:=hid hnx
     have HS2:=hid hs2
     have HR2:=hid hr2
     have HMX:=hid (max_nat hlh)
     have HMM:=hid hM.out
     clear hfl hfh hpt hnx hs2 hr2 hcf hmn Hlo Hhi hlh hhl hM HID HIX HKC
     clear cf
     have HV6:=hid HV.out
     obtain⟨s9,H9⟩:=name_itV ((l.take hi).drop lo)
     have HLN:=hid (show ((l.take hi).drop lo).length≤l.length from by rw[List.length_drop,List.length_take];omega)
     rw[H9.out]at HNX HR2 HLN
     clear H9
     have q5:=HV6.out.v2
     have HVQ:=hid (λ(W:World) (hv:NeaV F c T l cs S (.slice A l.length cap) z z8 zk (z+1) p P ps W)=>hv.v2)
     obtain⟨n,Hn⟩:=name_itV l.length
     rw[Hn.out]at HS2 q5
     go_wp2_with fail
     have c7:=HFL.out w6 HV6.out HBW6.out
     rw[Hn.out]at c7
     refine c7.mono ?_
     clear c7
     unfold FindIs
     rintro e7 w7 ⟨rfl,hb7⟩
     have HB7:=hid (HB6.out.trans (hb7.mono HB6.out.size))
     have HV7:=hid (HV6.out.on hb7)
     have HBW7:=hid (HBW6.out.trans (hb7.mono HBW6.out.size))
     clear hb7 q5
     have q5:=HV7.out.v2
     rw[Hn.out]at q5
     go_wp2_with fail
     have c8':=HFH.out w7 HV7.out HBW7.out
     rw[Hn.out]at c8'
     refine c8'.mono ?_
     clear c8'
     unfold FindIs
     rintro e8 w8 ⟨rfl,hb8⟩
     have HB8:=hid (HB7.out.trans (hb8.mono HB7.out.size))
     have HV8:=hid (HV7.out.on hb8)
     clear hb8 q5
     have q5:=HV8.out.v2
     rw[Hn.out]at q5
     have m1:=HMX.out
     have h8:=(HB8.out.block z8 (blk_lt HMM.out.v2)).trans HMM.out.v2
     have f8:w8.frozen? ⟨z8,0,none⟩=false:=Lib.frozen_of_heap h8 0
     clear h8
     have HNL:=hid (HMM.out.next HF.out HB8.out HNX.out HR2.out HLN.out)
     go_wp2_with ((with_reducible refine at_dst (some 102) ?_);refine val_arm rfl (.slice A9 n9 c9) (val_of (HS2.out _)) ?_)
     go_roundw
     case rel=>exact⟨e+1,s9,.slice A9 n9 c9,by omega,by first | rfl | go_num,HNL⟩
     case measure=>simp[intOf];omega
   ·have e3:e=3:=by omega
    subst e3
    have q5:=HSB.out
    clear hM he3
    go_wp2_with fail
    go_ret
    exact HFIN.out
set_option maxHeartbeats 4000000 in
theorem eqf_any (A B:Option Addr) (ca q cb:Nat) (f:Value) (w:World) :
    Calls Tryz.prog 193 #[.slice A 0 ca,.slice B q cb,f] w (ToldB (decide (q=0)) w):=by
 unfold ToldB
 by_cases h:q=0
 ·subst h
  go_enter Tryz.func193,Tryz.ntmps193
  go_wp2_with fail
  go_loopw [17] (λs wx=>s = .int .i64 0∧wx=w) (λ_ _=>0)
  case atStart=>exact⟨rfl,rfl⟩
  case round=>
   obtain⟨rfl,rfl⟩:=hrel
   go_wp2_with fail
   go_ret
   exact⟨rfl,Below.refl _ _⟩
 ·have e1:((0:Int) != (q:Int))=true:=by simp;omega
  have e2:decide (q=0)=false:=decide_eq_false h
  rw[e2]
  go_enter Tryz.func193,Tryz.ntmps193
  go_wp2_with fail
  go_ret
  exact⟨rfl,Below.refl _ _⟩
set_option maxRecDepth 100000 in
set_option maxHeartbeats 4000000 in
theorem sameP_any (a b:Val) (hl:a.list=[]) (A B:Option Addr) (ca cb:Nat) (w:World) :
    Calls Tryz.prog 123 #[.agg (cellsV a (.slice A 0 ca)),.agg (cellsV b (.slice B b.list.length cb))] w (ToldB (sameB a b) w):=by
 obtain⟨k,t,n,s,x,l⟩:=a
 obtain⟨k',t',n',s',x',l'⟩:=b
 simp only[Val.list]at hl
 subst hl
 unfold cellsV
 simp only[Val.kind,Val.truth,Val.num,Val.text,Val.extra,Val.list]
 obtain⟨q,HQ⟩:=name_itV l'.length
 rw[HQ.out]
 have HN:=hid (two_new w (.cells #[.int .i64 k,.bool t,.int .i64 n,.string s,.string x,.slice A 0 ca] 39) (.cells #[.int .i64 k',.bool t',.int .i64 n',.string s',.string x',.slice B q cb] 39))
 have HC:=hid (λ(f:Value) (W:World)=>eqf_any A B ca q cb f W)
 by_cases h1:k=k'
 ·subst h1
  by_cases h2:t=t'
  ·subst h2
   by_cases h3:n=n'
   ·subst h3
    by_cases h4:s=s'
    ·subst h4
     by_cases h5:x=x'
     ·subst h5
      have hb:decide (q=0)=sameB (.mk k t n s x []) (.mk k t n s x l'):=by
       unfold sameB
       rw[←HQ.out]
       cases l' with
       | nil=>simp
       | cons y r=>simp
      have HB2:=hid hb
      unfold ToldB at HC
      obtain⟨v,Hv⟩:=name_itV (decide (q=0))
      rw[Hv.out]at HC HB2
      clear hb Hv
      go_enter Tryz.func123,Tryz.ntmps123
      go_wp2_with fail
      refine (HC.out _ _).mono ?_
      rintro e w5 ⟨rfl,hb5⟩
      go_wp2_with fail
      go_ret
      exact told_bool HB2.out (HN.out.trans (hb5.mono HN.out.size))
     ·have t5:=strV_ne h5
      have hne:=sameB_no (a:=.mk k t n s x []) (b:=.mk k t n s x' l') (by simp[h5])
      have HNE:=hid hne
      clear hne h5
      go_enter Tryz.func123,Tryz.ntmps123
      go_wp2_with fail
      go_ret
      exact told_bool HNE.out.symm HN.out
    ·have t4:=strV_ne h4
     have hne:=sameB_no (a:=.mk k t n s x []) (b:=.mk k t n s' x' l') (by simp[h4])
     have HNE:=hid hne
     clear hne h4
     go_enter Tryz.func123,Tryz.ntmps123
     go_wp2_with fail
     go_ret
     exact told_bool HNE.out.symm HN.out
   ·have t3:(n==n')=false:=by simpa using h3
    have hne:=sameB_no (a:=.mk k t n s x []) (b:=.mk k t n' s' x' l') (by simp[h3])
    have HNE:=hid hne
    clear hne h3
    go_enter Tryz.func123,Tryz.ntmps123
    go_wp2_with fail
    go_ret
    exact told_bool HNE.out.symm HN.out
  ·have t2:(t==t')=false:=by simpa using h2
   have hne:=sameB_no (a:=.mk k t n s x []) (b:=.mk k t' n' s' x' l') (by simp[h2])
   have HNE:=hid hne
   clear hne h2
   go_enter Tryz.func123,Tryz.ntmps123
   go_wp2_with fail
   go_ret
   exact told_bool HNE.out.symm HN.out
 ·have t1:(k==k')=false:=by simpa using h1
  have hne:=sameB_no (a:=.mk k t n s x []) (b:=.mk k' t' n' s' x' l') (by simp[h1])
  have HNE:=hid hne
  clear hne h1
  go_enter Tryz.func123,Tryz.ntmps123
  go_wp2_with fail
  go_ret
  exact told_bool HNE.out.symm HN.out
end Go.Proofs.YtefhfadjajcmkaaGreatDoor
