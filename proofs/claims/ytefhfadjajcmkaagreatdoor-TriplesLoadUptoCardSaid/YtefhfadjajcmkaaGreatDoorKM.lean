/- Lists of a store's triples in memory. -/
import Derived.Test.YtefhfadjajcmkaaGreatDoorKL
import Derived.Test.YtefhfadjajcmkaaGreatDoorK8
import Derived.Test.YtefhfadjajcmkaaGreatDoorK4
import Derived.Test.YtefhfadjajcmkaaGreatDoorKC
set_option linter.unusedVariables false
set_option linter.unusedSimpArgs false
namespace Go.Proofs.YtefhfadjajcmkaaGreatDoor
open Go Go.RowKit Go.Maps
open Go.Lib (hid cell_of_heap)
set_option maxRecDepth 100000 in
set_option maxHeartbeats 16000000 in
theorem refMayT_any (t:Trip) (ok:OkT t) (F:Nat→Prop) (ss:Nat→Value) (w:World) (hF:∀g,F g→g<w.heap.size) (hv:∀n,n<3→VRd w F (t.get n) (.agg (cellsV (t.get n) (ss n)))) :
    Calls Tryz.prog 16 #[.agg (cellsT t ss)] w (ToldB (mayT t) w):=by
 obtain⟨c,Hc⟩:=name18 t ss
 rw[Hc.out]
 obtain⟨z,Hz⟩:=name_itV w.heap.size
 obtain⟨w2,HW2⟩:=name_itV (w.alloc (.cells c 41))
 have HB2:=hid (show Below w.heap.size w w2 from by rw[←HW2.out];exact (Below.refl _ _).alloc (Nat.le_refl _) _)
 have HX:=hid (show w2.heap[z]?=some (.cells c 41 (0,0)) from by rw[←HW2.out,←Hz.out];exact heap_alloc_new w _)
 have HPOST:=hid (show ∀W,Below w2.heap.size w2 W→Below w.heap.size w W from λW hb=>HB2.out.trans (hb.mono HB2.out.size))
 obtain⟨u0,Hu0⟩:=name6 (t.get 0) (ss 0)
 have IU0:=hid (infoV6.trans (congrArg some Hu0.size.symm))
 have LU0:=hid (λ(W:World) (hb:Below w2.heap.size w2 W) i (hi:i<u0.size)=>(show W.cell? ((⟨z,0,none⟩:Addr).add i)=u0[i]? from by
  rw[Addr.add_mid,cell_of_row W z (0+i) c _ _ ((hb.block z (blk_lt HX.out)).trans HX.out),←Hu0.out,←Hc.out]
  exact cellsT_part t ss 0 (by omega) i (by rwa [Hu0.size]at hi)))
 have hs0:=λ(W:World) (hb:Below w.heap.size w W)=>refMay_any (t.get 0) (Nat.le_trans (ok.get 0).size (by decide)) F _ W (λg h=>Nat.lt_of_lt_of_le (hF g h) hb.size) ((hv 0 (by omega)).under hb hF)
 unfold ToldB at hs0
 obtain⟨m0,Hm0⟩:=name_itV (mayV (t.get 0) 0)
 rw[Hu0.out,Hm0.out]at hs0
 have HS0:=hid hs0
 clear hs0
 obtain⟨k0,Hk0⟩:=name_itV (t.get 0).kind
 have LK0:=hid (λ(W:World) (hb:Below w2.heap.size w2 W)=>(show W.cell? ⟨z,0,none⟩=some (.int .i64 k0) from by
  rw[cell_of_row W z 0 c _ _ ((hb.block z (blk_lt HX.out)).trans HX.out),←Hc.out,←Hk0.out]
  rfl))
 obtain⟨u1,Hu1⟩:=name6 (t.get 1) (ss 1)
 have IU1:=hid (infoV6.trans (congrArg some Hu1.size.symm))
 have LU1:=hid (λ(W:World) (hb:Below w2.heap.size w2 W) i (hi:i<u1.size)=>(show W.cell? ((⟨z,6,none⟩:Addr).add i)=u1[i]? from by
  rw[Addr.add_mid,cell_of_row W z (6+i) c _ _ ((hb.block z (blk_lt HX.out)).trans HX.out),←Hu1.out,←Hc.out]
  exact cellsT_part t ss 1 (by omega) i (by rwa [Hu1.size]at hi)))
 have hs1:=λ(W:World) (hb:Below w.heap.size w W)=>refMay_any (t.get 1) (Nat.le_trans (ok.get 1).size (by decide)) F _ W (λg h=>Nat.lt_of_lt_of_le (hF g h) hb.size) ((hv 1 (by omega)).under hb hF)
 unfold ToldB at hs1
 obtain⟨m1,Hm1⟩:=name_itV (mayV (t.get 1) 0)
 rw[Hu1.out,Hm1.out]at hs1
 have HS1:=hid hs1
 clear hs1
 obtain⟨k1,Hk1⟩:=name_itV (t.get 1).kind
 have LK1:=hid (λ(W:World) (hb:Below w2.heap.size w2 W)=>(show W.cell? ⟨z,6,none⟩=some (.int .i64 k1) from by
  rw[cell_of_row W z 6 c _ _ ((hb.block z (blk_lt HX.out)).trans HX.out),←Hc.out,←Hk1.out]
  rfl))
 obtain⟨u2,Hu2⟩:=name6 (t.get 2) (ss 2)
 have IU2:=hid (infoV6.trans (congrArg some Hu2.size.symm))
 have LU2:=hid (λ(W:World) (hb:Below w2.heap.size w2 W) i (hi:i<u2.size)=>(show W.cell? ((⟨z,12,none⟩:Addr).add i)=u2[i]? from by
  rw[Addr.add_mid,cell_of_row W z (12+i) c _ _ ((hb.block z (blk_lt HX.out)).trans HX.out),←Hu2.out,←Hc.out]
  exact cellsT_part t ss 2 (by omega) i (by rwa [Hu2.size]at hi)))
 have hs2:=λ(W:World) (hb:Below w.heap.size w W)=>refMay_any (t.get 2) (Nat.le_trans (ok.get 2).size (by decide)) F _ W (λg h=>Nat.lt_of_lt_of_le (hF g h) hb.size) ((hv 2 (by omega)).under hb hF)
 unfold ToldB at hs2
 obtain⟨m2,Hm2⟩:=name_itV (mayV (t.get 2) 0)
 rw[Hu2.out,Hm2.out]at hs2
 have HS2:=hid hs2
 clear hs2
 obtain⟨k2,Hk2⟩:=name_itV (t.get 2).kind
 have LK2:=hid (λ(W:World) (hb:Below w2.heap.size w2 W)=>(show W.cell? ⟨z,12,none⟩=some (.int .i64 k2) from by
  rw[cell_of_row W z 12 c _ _ ((hb.block z (blk_lt HX.out)).trans HX.out),←Hc.out,←Hk2.out]
  rfl))
 have HMT:=hid (show mayT t=(m0&&(m1&&(m2&&(decide (k1=8)&&(decide (k0=8∨k0=9)&&decide (k2=8∨k2=9∨k2=10∨k2=4∨k2=1∨k2=2∨k2=3)))))) from by rw[←Hm0.out,←Hm1.out,←Hm2.out,←Hk0.out,←Hk1.out,←Hk2.out];rfl)
 obtain⟨r,Hr⟩:=name_itV (mayT t)
 rw[Hr.out]at HMT
 unfold ToldB
 rw[Hr.out]
 clear hv hF ok Hk0 Hk1 Hk2 Hm0 Hm1 Hm2 Hr
 go_enter Tryz.func16,Tryz.ntmps16
 go_upto_region 1 with fail
 rw[HW2.out,Hz.out]
 clear HW2
 go_wp2_with ((with_reducible refine at_dst (some 4) ?_);refine ld_armG (by rfl) 39 _ rfl rfl u0 _ (LU0.out _ (Below.refl _ _)) Tryz.underlying39 rfl IU0.out ?_)
 refine (HS0.out _ (HPOST.out _ (Below.refl _ _))).mono ?_
 rintro e x0 ⟨rfl,hb⟩
 have HX0:=hid (show Below w2.heap.size w2 x0 from hb)
 clear hb
 cases m0 with
 | false=>
  go_wp2_with fail
  go_ret
  exact⟨congrArg (λb=>Ending.returned (Value.bool b)) (show false=r from by rw[HMT.out];simp),HPOST.out _ HX0.out⟩
 | true=>
  go_wp2_with ((with_reducible refine at_dst (some 9) ?_);refine ld_armG (by rfl) 39 _ rfl rfl u1 _ (LU1.out _ HX0.out) Tryz.underlying39 rfl IU1.out ?_)
  refine (HS1.out _ (HPOST.out _ HX0.out)).mono ?_
  rintro e x1 ⟨rfl,hb⟩
  have HX1:=hid (show Below w2.heap.size w2 x1 from HX0.out.trans (hb.mono HX0.out.size))
  clear hb
  cases m1 with
  | false=>
   go_wp2_with fail
   go_ret
   exact⟨congrArg (λb=>Ending.returned (Value.bool b)) (show false=r from by rw[HMT.out];simp),HPOST.out _ HX1.out⟩
  | true=>
   go_wp2_with ((with_reducible refine at_dst (some 15) ?_);refine ld_armG (by rfl) 39 _ rfl rfl u2 _ (LU2.out _ HX1.out) Tryz.underlying39 rfl IU2.out ?_)
   refine (HS2.out _ (HPOST.out _ HX1.out)).mono ?_
   rintro e x2 ⟨rfl,hb⟩
   have HX2:=hid (show Below w2.heap.size w2 x2 from HX1.out.trans (hb.mono HX1.out.size))
   clear hb
   cases m2 with
   | false=>
    go_wp2_with fail
    go_ret
    exact⟨congrArg (λb=>Ending.returned (Value.bool b)) (show false=r from by rw[HMT.out];simp),HPOST.out _ HX2.out⟩
   | true=>
    have q0:=LK0.out x2 HX2.out
    have q1:=LK1.out x2 HX2.out
    have q2:=LK2.out x2 HX2.out
    by_cases hk:k2=8∨k2=9∨k2=10∨k2=4∨k2=1∨k2=2∨k2=3
    ·have HK:=hid hk
     by_cases h1:k1=8
     ·have H1:=hid h1
      by_cases h0:k0=8
      ·have HE:=hid (show true=r from by rw[HMT.out,decide_eq_true H1.out,decide_eq_true (.inl h0),decide_eq_true HK.out];rfl)
       rcases hk with rfl | rfl | rfl | rfl | rfl | rfl | rfl
       all_goals
        subst h0
        subst h1
        go_wp2_with fail
        go_ret
        exact⟨congrArg (λb=>Ending.returned (Value.bool b)) HE.out,HPOST.out _ HX2.out⟩
      ·by_cases h9:k0=9
       ·have HE:=hid (show true=r from by rw[HMT.out,decide_eq_true H1.out,decide_eq_true (.inr h9),decide_eq_true HK.out];rfl)
        rcases hk with rfl | rfl | rfl | rfl | rfl | rfl | rfl
        all_goals
         subst h9
         subst h1
         go_wp2_with fail
         go_ret
         exact⟨congrArg (λb=>Ending.returned (Value.bool b)) HE.out,HPOST.out _ HX2.out⟩
       ·have HE:=hid (show false=r from by rw[HMT.out,decide_eq_true H1.out,decide_eq_false (by rintro (h | h);exact h0 h;exact h9 h)];rfl)
        rcases hk with rfl | rfl | rfl | rfl | rfl | rfl | rfl
        all_goals
         subst h1
         go_wp2_with fail
         go_ret
         exact⟨congrArg (λb=>Ending.returned (Value.bool b)) HE.out,HPOST.out _ HX2.out⟩
     ·have HE:=hid (show false=r from by rw[HMT.out,decide_eq_false h1];rfl)
      have hk1:(k1==(8:Int))=false:=by simpa using h1
      by_cases h0:k0=8
      ·rcases hk with rfl | rfl | rfl | rfl | rfl | rfl | rfl
       all_goals
        subst h0
        go_wp2_with fail
        go_ret
        exact⟨congrArg (λb=>Ending.returned (Value.bool b)) HE.out,HPOST.out _ HX2.out⟩
      ·by_cases h9:k0=9
       ·rcases hk with rfl | rfl | rfl | rfl | rfl | rfl | rfl
        all_goals
         subst h9
         go_wp2_with fail
         go_ret
         exact⟨congrArg (λb=>Ending.returned (Value.bool b)) HE.out,HPOST.out _ HX2.out⟩
       ·rcases hk with rfl | rfl | rfl | rfl | rfl | rfl | rfl
        all_goals
         go_wp2_with fail
         go_ret
         exact⟨congrArg (λb=>Ending.returned (Value.bool b)) HE.out,HPOST.out _ HX2.out⟩
    ·have HE:=hid (show false=r from by rw[HMT.out,decide_eq_false hk,Bool.and_false,Bool.and_false];rfl)
     have g1:¬k2=8:=λh=>hk (.inl h)
     have g2:¬k2=9:=λh=>hk (.inr (.inl h))
     have g3:¬k2=10:=λh=>hk (.inr (.inr (.inl h)))
     have g4:¬k2=4:=λh=>hk (.inr (.inr (.inr (.inl h))))
     have g5:¬k2=1:=λh=>hk (.inr (.inr (.inr (.inr (.inl h)))))
     have g6:¬k2=2:=λh=>hk (.inr (.inr (.inr (.inr (.inr (.inl h))))))
     have g7:¬k2=3:=λh=>hk (.inr (.inr (.inr (.inr (.inr (.inr h))))))
     clear hk
     go_wp2_with fail
     go_ret
     exact⟨congrArg (λb=>Ending.returned (Value.bool b)) HE.out,HPOST.out _ HX2.out⟩
theorem copyV2_any (v:Val) (hs:sizeL v.list≤100000000) {F:Nat→Prop} {u:Value} (w:World) (hF:∀g,F g→g<w.heap.size) (hv:VRd w F v u):Calls Tryz.prog 44 #[u] w (CopyVIs v w):=by
 obtain⟨A,cap,rfl,_,hl⟩:=hv.inv
 exact copy_step v A cap w hF hl λw' h1 h2=>copy_any (sizeL v.list+1) v.list (by omega) hs F A _ cap w' h2 h1
theorem copyV2_rd {v:Val} {s:Value} {w:World} {F:Nat→Prop} (h:LOwn w F v.list s):VRd w F v (.agg (cellsV v s)):=(VOwn.of_list h).rd
theorem wp_app_R {op:Oper} {a:Act} {K:Act→World→Prop} {Q:Exit→Act→World→Prop} (s x:Operand) (ho:op.op = .call { callee:=.builtin .append,args:=#[s,x],argTypes:=#[22,22] })
    {wr:World} {F G:Nat→Prop} {L:List Trip} {S:Value} {t:Trip} {c:Array Value} {n:Nat} (hS:a.eval s=S) (hown:SOwn 41 18 TrR wr F L S) (hL:L.length=n) (hx:a.eval x = .slice (some ⟨wr.heap.size,0,none⟩) 1 1) (hc:TrR wr G t c) (hc1:∀u∈c.toList,u.oneCell'=true) (hlen:n≤1000000000) (hF:∀b,F b→b<wr.heap.size) (hG:∀b,G b→b<wr.heap.size) (hGS:∀b,G b→S.ownBlock≠some b)
    (h:∀g cap w',SOwn 41 18 TrR w' (λb=>F b∨G b∨b=g) (L++[t]) (.slice (some ⟨g,0,none⟩) (n+1) cap)→wr.grownBy w' S.ownBlock→(S.ownBlock=some g∨wr.heap.size≤g)→g<w'.heap.size→K (a.put op.dst (.slice (some ⟨g,0,none⟩) (n+1) cap)) w') :
    op.wp Tryz.prog a (wr.alloc (.cells c 41)) K Q:=by
 subst hL
 obtain⟨i0,hi,hz0,hz1,hz2⟩:=info_parts infoTrs
 obtain⟨cs,hrow,h6,hFw,hr⟩:=hown
 have hc18:c.size=18:=by obtain⟨ss,e,_⟩:=hc;rw[e];rfl
 refine wp_append_lies _ s x _ ho 0 41 i0 _ 18 240 Tryz.underlying22 hi hz0 hz1 hz2 rfl (by decide) S L.length (flatC cs L.length) hS (hrow.alloc _) ⟨wr.heap.size,0,none⟩ 1 1 c.toList hx (by rw[Array.length_toList,hc18]) (World.news_of_block (heap_alloc_new wr _)) hc1 (by omega) (by unfold maxLen;omega) (by omega) (Nat.zero_le _) (wr.heap.size+1) (by simp) (λg cap w' h1 h2 h3 h4=>?_)
 have hg:=grown_after h2
 have hl:S.ownBlock=some g∨wr.heap.size≤g:=h3.imp id (λe=>by rw[e];omega)
 exact h g cap w' (SOwn.snoc (x:=t) (c:=c) (G:=G) TrR.good ⟨cs,hrow,h6,hFw,hr⟩ hc hc18 hGS hF hG (λcs' h'=>by rw[own_inj h' hrow];exact h1) hg hl) hg hl h4
def CopyTsIs (L:List Trip) (w:World) (e:Ending) (w':World):Prop:=∃v,e = .returned v∧SOwn 41 18 TrR w' (λb=>w.heap.size≤b∧b<w'.heap.size) L v∧Below w.heap.size w w'
structure CpM (w:World) (L:List Trip) (S:Value) (wx:World):Prop where
 hb:Below w.heap.size w wx
 own:SOwn 41 18 TrR wx (λb=>w.heap.size≤b∧b<wx.heap.size) L S
theorem CpM.on {w wx w':World} {L:List Trip} {S:Value} (h:CpM w L S wx) (hb:Below wx.heap.size wx w'):CpM w L S w':=
 ⟨h.hb.trans (hb.mono h.hb.size),(h.own.turn TrR.good (Turn.of_below hb) (λb hb=>hb.2) (λb hb=>λe=>by have e:wx.heap.size≤b:=e;have:=hb.2;omega)).mono TrR.good λb h1=>⟨h1.1,Nat.lt_of_lt_of_le h1.2 hb.size⟩⟩
theorem CpM.drew {w wx:World} {L:List Trip} {S:Value} (h:CpM w L S wx):CpM w L S wx.drew:=h.on (Below.refl _ _).drew
theorem CpM.lt {w wx:World} {L:List Trip} {S:Value} (h:CpM w L S wx) {b:Nat} (hb:S.ownBlock=some b):w.heap.size≤b∧b<wx.heap.size:=by
 obtain⟨_,_,_,hF,_⟩:=h.own
 exact hF b hb
theorem CpM.more {w wr w':World} {g cap n:Nat} {S:Value} {L:List Trip} {t:Trip} {G:Nat→Prop} (h:CpM w L S wr) (hg:wr.grownBy w' S.ownBlock) (hl:S.ownBlock=some g∨wr.heap.size≤g) (hgw:g<w'.heap.size) (hG:∀b,G b→w.heap.size≤b∧b<wr.heap.size)
    (ho:SOwn 41 18 TrR w' (λb=>(w.heap.size≤b∧b<wr.heap.size)∨G b∨b=g) (L++[t]) (.slice (some ⟨g,0,none⟩) n cap)):CpM w (L++[t]) (.slice (some ⟨g,0,none⟩) n cap) w':=by
 refine⟨below_turn h.hb (Turn.of_grown hg) (λb hb=>(h.lt hb.symm).1),ho.mono TrR.good λb hb=>?_⟩
 rcases hb with hb | hb | rfl
 ·exact⟨hb.1,Nat.lt_of_lt_of_le hb.2 hg.size⟩
 ·exact⟨(hG b hb).1,Nat.lt_of_lt_of_le (hG b hb).2 hg.size⟩
 ·refine⟨?_,hgw⟩
  rcases hl with h1 | h1
  ·exact (h.lt h1).1
  ·exact Nat.le_trans h.hb.size h1
theorem one_tr {t:Trip} {ss:Nat→Value} (h:∀n,n<3→∃A l c,ss n = .slice A l c):∀u∈(cellsT t ss).toList,u.oneCell'=true:=cellsT_one t ss h
set_option maxRecDepth 100000 in
set_option maxHeartbeats 16000000 in
theorem copyTs_any {F:Nat→Prop} {w:World} {L:List Trip} {A:Option Addr} {n cp:Nat} (h:SRd 18 TrR w F L A n) (hF:∀b,F b→b<w.heap.size) (hn:n≤1000000000) (hsz:∀t,t∈L→∀i,sizeL (t.get i).list≤100000000) :
    Calls Tryz.prog 11 #[.slice A n cp] w (CopyTsIs L w):=by
 have H1:=hid h
 have HF:=hid hF
 have HSZ:=hid hsz
 have L1:=hid h.1
 have HN:=hid hn
 have HST:=hid (show CpM w [] (.slice none 0 0) w from ⟨Below.refl _ _,SOwn.nil ..⟩)
 clear h hF hsz
 go_enter Tryz.func11,Tryz.ntmps11
 go_wp2_with fail
 go_loopw [3,4] (λs3 s4 wx=>∃(k:Nat) (S:Value),k≤n∧s4 = .int .i64 (k:Nat)∧S=s3∧Hid (CpM w (L.take k) S wx)) (λ_ s _=>n-(intOf s).toNat)
 case atStart=>exact⟨0,_,by omega,rfl,rfl,HST.out⟩
 case round=>
  obtain⟨k,S,hk,rfl,rfl,hM⟩:=hrel
  by_cases hlt:k<n
  ·have a1:(0:Int)≤k:=by omega
   have a2:(k:Int)<n:=by omega
   have w1:IntKind.i64.wrap ((k:Int)+1)=(k:Int)+1:=IntWalk.i64_in _ (by omega)
   obtain⟨t,ht⟩:∃t,L[k]?=some t:=⟨_,List.getElem?_eq_getElem (by rw[←L1.out];exact hlt)⟩
   obtain⟨ad,ss,rfl,hfa,hq,hr⟩:=TrR.cells H1.out ht
   have HT:=hid ht
   have HTM:=hid (List.mem_of_getElem? ht)
   have HLT:=hid hlt
   have HR:=hid (λ(W:World) (hb:Below w.heap.size w W) (q:Nat) (hq:q<3)=>(hr q hq).under hb HF.out)
   have HFW:=hid (λ(W:World) (hb:Below w.heap.size w W) g h=>Nat.lt_of_lt_of_le (HF.out g h) hb.size)
   obtain⟨u0,Hu0⟩:=name6 (t.get 0) (ss 0)
   have IU0:=hid (infoV6.trans (congrArg some Hu0.size.symm))
   have HQ0:=hid (λ(W:World) (hb:Below w.heap.size w W) (j:Nat) (hj:j<u0.size)=>(show W.cell? (((ad.add (k*18)).add 0).add j)=u0[j]? from by
    have h1:=hq (0+j) (by rw[cellsT_size];rw[Hu0.size]at hj;omega)
    rw[add_of_add,hb.cell (p:=(ad.add (k*18)).add (0+j)) (by rw[add_blk,add_blk];exact HF.out _ hfa),h1,←Hu0.out]
    exact cellsT_part t ss 0 (by omega) j (by rwa [Hu0.size]at hj)))
   have hc0:=λ(W:World) (hb:Below w.heap.size w W)=>copyV2_any (t.get 0) (HSZ.out t HTM.out 0) W (HFW.out W hb) (HR.out W hb 0 (by omega))
   rw[Hu0.out]at hc0
   have HC0:=hid hc0
   clear hc0
   obtain⟨u1,Hu1⟩:=name6 (t.get 1) (ss 1)
   have IU1:=hid (infoV6.trans (congrArg some Hu1.size.symm))
   have HQ1:=hid (λ(W:World) (hb:Below w.heap.size w W) (j:Nat) (hj:j<u1.size)=>(show W.cell? (((ad.add (k*18)).add 6).add j)=u1[j]? from by
    have h1:=hq (6+j) (by rw[cellsT_size];rw[Hu1.size]at hj;omega)
    rw[add_of_add,hb.cell (p:=(ad.add (k*18)).add (6+j)) (by rw[add_blk,add_blk];exact HF.out _ hfa),h1,←Hu1.out]
    exact cellsT_part t ss 1 (by omega) j (by rwa [Hu1.size]at hj)))
   have hc1:=λ(W:World) (hb:Below w.heap.size w W)=>copyV2_any (t.get 1) (HSZ.out t HTM.out 1) W (HFW.out W hb) (HR.out W hb 1 (by omega))
   rw[Hu1.out]at hc1
   have HC1:=hid hc1
   clear hc1
   obtain⟨u2,Hu2⟩:=name6 (t.get 2) (ss 2)
   have IU2:=hid (infoV6.trans (congrArg some Hu2.size.symm))
   have HQ2:=hid (λ(W:World) (hb:Below w.heap.size w W) (j:Nat) (hj:j<u2.size)=>(show W.cell? (((ad.add (k*18)).add 12).add j)=u2[j]? from by
    have h1:=hq (12+j) (by rw[cellsT_size];rw[Hu2.size]at hj;omega)
    rw[add_of_add,hb.cell (p:=(ad.add (k*18)).add (12+j)) (by rw[add_blk,add_blk];exact HF.out _ hfa),h1,←Hu2.out]
    exact cellsT_part t ss 2 (by omega) j (by rwa [Hu2.size]at hj)))
   have hc2:=λ(W:World) (hb:Below w.heap.size w W)=>copyV2_any (t.get 2) (HSZ.out t HTM.out 2) W (HFW.out W hb) (HR.out W hb 2 (by omega))
   rw[Hu2.out]at hc2
   have HC2:=hid hc2
   clear hc2
   clear ht hfa hq hr
   go_upto_region 5 with fail
   refine wp_region_held_drew (S:=λW'=>Below w.heap.size w W') (by kernel_rfl) hM.out.hb.drew (λhH=>?_)
   refine Boxed.out ?_
   refine tkV 0 11 (S) hH (λhH=>?_)
   try simp only[Act.put,aT,aZ,aS]
   refine tkV 1 12 (.slice (some ad) n cp) hH (λhH=>?_)
   try simp only[Act.put,aT,aZ,aS]
   refine tkV 2 13 (.int .i64 (k:Nat)) hH (λhH=>?_)
   try simp only[Act.put,aT,aZ,aS]
   refine tkW 3 14 (.pointer (some (ad.add (k*18)))) hH (λw hSw=>?_) (λhH=>?_)
   ·exact val_of (idx_tr ad n cp k HLT.out w)
   try simp only[Act.put,aT,aZ,aS]
   refine tkV 4 15 (.pointer (some ((ad.add (k*18)).add 0))) hH (λhH=>?_)
   try simp only[Act.put,aT,aZ,aS]
   refine tkW 5 16 (.agg u0) hH (λw hSw=>?_) (λhH=>?_)
   ·have p:=run_loadVar_at w ((ad.add (k*18)).add 0) 39 u0 _ (HQ0.out _ hSw) Tryz.underlying39 rfl IU0.out
    exact val_of (by simp only[Instr.loadAt,Instr.sureAddr,Sem.run_bind];exact p)
   try simp only[Act.put,aT,aZ,aS]
   refine tkV 7 18 (.slice (some ad) n cp) hH (λhH=>?_)
   try simp only[Act.put,aT,aZ,aS]
   refine tkV 8 19 (.int .i64 (k:Nat)) hH (λhH=>?_)
   try simp only[Act.put,aT,aZ,aS]
   refine tkW 9 20 (.pointer (some (ad.add (k*18)))) hH (λw hSw=>?_) (λhH=>?_)
   ·exact val_of (idx_tr ad n cp k HLT.out w)
   try simp only[Act.put,aT,aZ,aS]
   refine tkV 10 21 (.pointer (some ((ad.add (k*18)).add 6))) hH (λhH=>?_)
   try simp only[Act.put,aT,aZ,aS]
   refine tkW 11 22 (.agg u1) hH (λw hSw=>?_) (λhH=>?_)
   ·have p:=run_loadVar_at w ((ad.add (k*18)).add 6) 39 u1 _ (HQ1.out _ hSw) Tryz.underlying39 rfl IU1.out
    exact val_of (by simp only[Instr.loadAt,Instr.sureAddr,Sem.run_bind];exact p)
   try simp only[Act.put,aT,aZ,aS]
   refine tkV 13 24 (.slice (some ad) n cp) hH (λhH=>?_)
   try simp only[Act.put,aT,aZ,aS]
   refine tkV 14 25 (.int .i64 (k:Nat)) hH (λhH=>?_)
   try simp only[Act.put,aT,aZ,aS]
   refine tkW 15 26 (.pointer (some (ad.add (k*18)))) hH (λw hSw=>?_) (λhH=>?_)
   ·exact val_of (idx_tr ad n cp k HLT.out w)
   try simp only[Act.put,aT,aZ,aS]
   refine tkV 16 27 (.pointer (some ((ad.add (k*18)).add 12))) hH (λhH=>?_)
   try simp only[Act.put,aT,aZ,aS]
   refine tkW 17 28 (.agg u2) hH (λw hSw=>?_) (λhH=>?_)
   ·have p:=run_loadVar_at w ((ad.add (k*18)).add 12) 39 u2 _ (HQ2.out _ hSw) Tryz.underlying39 rfl IU2.out
    exact val_of (by simp only[Instr.loadAt,Instr.sureAddr,Sem.run_bind];exact p)
   try simp only[Act.put,aT,aZ,aS]
   refine tkC 6 (λK hK=>?_)
   change Oper.wp _ ⟨some 17,_,_,_,_,_⟩ _ _ _ _
   go_simp
   refine (HC0.out _ hH).mono ?_
   unfold CopyVIs
   rintro e x0 ⟨s0,rfl,hb,ho⟩
   obtain⟨v0,Hv0⟩:=name6 (t.get 0) s0
   rw[Hv0.out]
   have HB0:=hid hb
   have HO0:=hid ho
   have HS0:=hid (hH.trans (hb.mono hH.size))
   clear hb ho
   dsimp only
   refine hK.out _ _ HS0.out (λhH=>?_)
   clear hK K
   try simp only[Act.put,aT,aZ,aS]
   refine tkC 12 (λK hK=>?_)
   change Oper.wp _ ⟨some 23,_,_,_,_,_⟩ _ _ _ _
   go_simp
   refine (HC1.out _ hH).mono ?_
   unfold CopyVIs
   rintro e x1 ⟨s1,rfl,hb,ho⟩
   obtain⟨v1,Hv1⟩:=name6 (t.get 1) s1
   rw[Hv1.out]
   have HB1:=hid hb
   have HO1:=hid ho
   have HS1:=hid (hH.trans (hb.mono hH.size))
   clear hb ho
   dsimp only
   refine hK.out _ _ HS1.out (λhH=>?_)
   clear hK K
   try simp only[Act.put,aT,aZ,aS]
   refine tkC 18 (λK hK=>?_)
   change Oper.wp _ ⟨some 29,_,_,_,_,_⟩ _ _ _ _
   go_simp
   refine (HC2.out _ hH).mono ?_
   unfold CopyVIs
   rintro e x2 ⟨s2,rfl,hb,ho⟩
   obtain⟨v2,Hv2⟩:=name6 (t.get 2) s2
   rw[Hv2.out]
   have HB2:=hid hb
   have HO2:=hid ho
   have HS2:=hid (hH.trans (hb.mono hH.size))
   clear hb ho
   dsimp only
   refine hK.out _ _ HS2.out (λhH=>?_)
   clear hK K
   try simp only[Act.put,aT,aZ,aS]
   obtain⟨sf,hsf⟩:∃sf:Nat→Value,sf 0=s0∧sf 1=s1∧sf 2=s2:=⟨λi=>if i=0 then s0 else if i=1 then s1 else s2,rfl,rfl,rfl⟩
   obtain⟨ct,Hct⟩:=name18 t sf
   have HBD:=hid (show ∀W,(Instr.build 41 #[(0,.agg v0),(1,.agg v1),(2,.agg v2)]).run Tryz.prog W = .ok (.agg ct) W from λW=>by
    have:=build_trp t sf W
    rwa [hsf.1,hsf.2.1,hsf.2.2,Hv0.out,Hv1.out,Hv2.out,Hct.out]at this)
   have ZC:=hid Hct.size
   have HM2:=hid (((hM.out.drew.on HB0.out).on HB1.out).on HB2.out)
   have HTR:=hid (show TrR x2 (λb=>wr.heap.size≤b∧b<x2.heap.size) t ct from by
    have g0:=HB0.out.size
    have g1:=HB1.out.size
    have g2:=HB2.out.size
    refine⟨sf,Hct.out.symm,λq hq=>?_⟩
    rcases (show q=0∨q=1∨q=2 by omega) with rfl | rfl | rfl
    ·rw[hsf.1]
     exact (((copyV2_rd HO0.out).under HB1.out (λb hb=>hb.2)).under HB2.out (λb hb=>Nat.lt_of_lt_of_le hb.2 g1)).mono λb hb=>⟨hb.1,Nat.lt_of_lt_of_le hb.2 (Nat.le_trans g1 g2)⟩
    ·rw[hsf.2.1]
     exact ((copyV2_rd HO1.out).under HB2.out (λb hb=>hb.2)).mono λb hb=>⟨Nat.le_trans g0 hb.1,Nat.lt_of_lt_of_le hb.2 g2⟩
    ·rw[hsf.2.2]
     exact (copyV2_rd HO2.out).mono λb hb=>⟨Nat.le_trans (Nat.le_trans g0 g1) hb.1,hb.2⟩)
   have HONE:=hid (show ∀u∈ct.toList,u.oneCell'=true from by
    rw[←Hct.out]
    refine one_tr λq hq=>?_
    rcases (show q=0∨q=1∨q=2 by omega) with rfl | rfl | rfl
    ·obtain⟨A,c,e⟩:=HO0.out.form
     exact⟨A,_,c,by rw[hsf.1,e]⟩
    ·obtain⟨A,c,e⟩:=HO1.out.form
     exact⟨A,_,c,by rw[hsf.2.1,e]⟩
    ·obtain⟨A,c,e⟩:=HO2.out.form
     exact⟨A,_,c,by rw[hsf.2.2,e]⟩)
   clear hsf
   refine tkW 19 30 (.agg ct) hH (λw hSw=>?_) (λhH=>?_)
   ·refine val_of (Eq.trans (congrArg (λq=>(Instr.build 41 q).run Tryz.prog w) ?_) (HBD.out w))
    kernel_rfl
   try simp only[Act.put,aT,aZ,aS]
   refine tkC 20 (λK hK=>?_)
   change Oper.wp _ ⟨some 31,_,_,_,_,_⟩ _ _ _ _
   refine wp_bsL (.tmp 30) rfl rfl ZC.out ?_
   refine hK.out _ _ (hH.alloc hH.size _) (λhH=>?_)
   clear hK K
   try simp only[Act.put,aT,aZ,aS]
   refine tkC 21 (λK hK=>?_)
   change Oper.wp _ ⟨some 32,_,_,_,_,_⟩ _ _ _ _
   refine wp_app_R (.tmp 11) (.tmp 31) rfl rfl HM2.out.own (show (L.take k).length=k from by rw[List.length_take];have:=L1.out;have:=HLT.out;omega) rfl HTR.out HONE.out (by have:=HN.out;have:=HLT.out;omega) (λb hb=>hb.2) (λb hb=>hb.2) (λb hb e=>by have:=(hM.out.lt e).2;have:=hb.1;omega) (λg7 c7 w7 ho7 hg7 hl7 hw7=>?_)
   have HM7:=hid (HM2.out.more hg7 hl7 hw7 (λb hb=>⟨Nat.le_trans hM.out.hb.size hb.1,hb.2⟩) ho7)
   clear ho7 hg7 hl7 hw7
   refine hK.out _ _ HM7.out.hb (λhH=>?_)
   clear hK K
   try simp only[Act.put,aT,aZ,aS]
   refine tkV 22 3 (.slice (some ⟨g7,0,none⟩) (k+1) c7) hH (λhH=>?_)
   try simp only[Act.put,aT,aZ,aS]
   refine⟨wpAnyH_done (by kernel_rfl) ?_ _⟩
   clear hH
   go_wp2_with fail
   go_roundw
   case rel=>exact⟨k+1,_,by omega,by go_num,rfl,hid (by rw[take_oneMore HT.out];exact HM7.out)⟩
   case measure=>simp[intOf];omega
  ·have a2:¬(k:Int)<n:=by omega
   have HE:=hid (show CopyTsIs L w (.returned S) wr from ⟨S,rfl,by have:=hM.out.own;rwa [List.take_of_length_le (by have:=L1.out;omega)]at this,hM.out.hb⟩)
   go_wp2_with fail
   go_ret
   exact HE.out
theorem ownsRow_cells {w:World} {E sz g n cap k:Nat} {cs:Nat→Array Value} {c:Array Value} (h:w.ownsRow 0 E sz (.slice (some ⟨g,0,none⟩) n cap) n (flatC cs n)) (h6:∀i,i<n→(cs i).size=sz) (hk:k<n) (hc:c.size=sz) :
    (w.setCells g (k*sz) c.toList).ownsRow 0 E sz (.slice (some ⟨g,0,none⟩) n cap) n (flatC (λi=>if i=k then c else cs i) n):=by
 have h6':∀i,i<n→((λi=>if i=k then c else cs i) i).size=sz:=λi hi=>by
  dsimp only
  split
  ·exact hc
  ·exact h6 i hi
 rcases h.2 with⟨h0,_⟩ | ⟨g',cap',cur,h0,hb,hg,hnc,hcm,hcs,htake⟩
 ·simp at h0
 ·simp only[Value.slice.injEq,Option.some.injEq,Addr.mk.injEq,and_true,true_and]at h0
  obtain⟨rfl,rfl⟩:=h0
  obtain⟨cur',h1,h2,h3⟩:=cells_heap c.toList (k*sz) hg
  refine⟨by rw[flatC_length h6'],.inr ⟨g,cap,cur',rfl,hb,h1,hnc,hcm,by rw[h2];exact hcs,?_⟩⟩
  have hfull:n*sz≤cur.size:=Nat.le_trans (Nat.mul_le_mul_right sz hnc) (by rw[hcs];exact Nat.le_refl _)
  refine List.ext_getElem? λj=>?_
  by_cases hj:j<n*sz
  ·rcases Nat.eq_zero_or_pos sz with z0 | z0
   ·subst z0
    omega
   ·have hi:j / sz<n:=(Nat.div_lt_iff_lt_mul z0).2 hj
    have hm:j % sz<sz:=Nat.mod_lt _ z0
    have e:j=(j / sz)*sz+j % sz:=by rw[Nat.mul_comm];exact (Nat.div_add_mod j sz).symm
    have hold:(cur.toList.take (n*sz))[j]?=(flatC cs n)[j]?:=by rw[htake]
    rw[List.getElem?_take_of_lt hj,Array.getElem?_toList]at hold
    rw[List.getElem?_take_of_lt hj,Array.getElem?_toList,h3 j,Array.length_toList,hc]
    obtain⟨a,ha⟩:∃a,a=j / sz:=⟨_,rfl⟩
    obtain⟨b,hb2⟩:∃b,b=j % sz:=⟨_,rfl⟩
    rw[←ha,←hb2]at e
    rw[←ha]at hi
    rw[←hb2]at hm
    clear ha hb2
    subst e
    rw[flatC_at h6' hi hm]
    by_cases hak:a=k
    ·subst hak
     rw[if_pos ⟨by omega,by omega,by omega⟩,if_pos rfl,Nat.add_sub_cancel_left,Array.getElem?_toList]
    ·rw[if_neg hak,if_neg,hold,flatC_at h6 hi hm]
     rintro⟨q1,q2,_⟩
     rcases Nat.lt_or_gt_of_ne hak with hlt | hlt
     ·have:=Nat.mul_le_mul_right sz (show a+1≤k from hlt)
      rw[Nat.succ_mul]at this
      omega
     ·have:=Nat.mul_le_mul_right sz (show k+1≤a from hlt)
      rw[Nat.succ_mul]at this
      omega
  ·rw[List.getElem?_eq_none (by rw[List.length_take,Array.length_toList];omega),List.getElem?_eq_none (by rw[flatC_length h6'];omega)]
section
variable {α : Type} {E:TypeId} {sz:Nat} {R:α → Array Value→Prop} {w w':World} {l:List α} {g n cap:Nat}
theorem POwn.set (hP:PlainR sz R) (h:POwn E sz R w l (.slice (some ⟨g,0,none⟩) n cap)) (hn:l.length=n) {k:Nat} (hk:k<n) {x:α} {c:Array Value} (hx:R x c) :
    POwn E sz R (w.setCells g (k*sz) c.toList) (l.set k x) (.slice (some ⟨g,0,none⟩) n cap):=by
 obtain⟨cs,hrow,hr⟩:=h
 subst hn
 have h6:∀i,i<l.length→(cs i).size=sz:=λi hi=>hP.size (hr i _ (List.getElem?_eq_getElem hi))
 refine⟨λi=>if i=k then c else cs i,?_,λi y hy=>?_⟩
 ·rw[List.length_set]
  exact ownsRow_cells hrow h6 hk (hP.size hx)
 ·dsimp only
  rw[List.getElem?_set]at hy
  by_cases e:k=i
  ·subst e
   rw[if_pos rfl,if_pos hk]at hy
   injection hy with hy
   subst hy
   rw[if_pos rfl]
   exact hx
  ·rw[if_neg e]at hy
   rw[if_neg (λh=>e h.symm)]
   exact hr i y hy
theorem POwn.there (h:POwn E sz R w l (.slice (some ⟨g,0,none⟩) n cap)) (hn:l.length=n) {k:Nat} (hk:k<n):w.there g (k*sz) sz:=by
 obtain⟨cs,hrow,_⟩:=h
 subst hn
 rcases hrow.2 with⟨h0,_⟩ | ⟨g',cap',cur,h0,hb,hg,hnc,hcm,hcs,htake⟩
 ·simp at h0
 ·simp only[Value.slice.injEq,Option.some.injEq,Addr.mk.injEq,and_true,true_and]at h0
  obtain⟨rfl,rfl⟩:=h0
  refine λj hj=>⟨?_,frozen_of_row _ _ _ _ _ hg⟩
  have h1:(k+1)*sz≤cap*sz:=Nat.mul_le_mul_right sz (by omega)
  rw[Nat.succ_mul]at h1
  rw[cell_of_row w g (k*sz+j) cur E _ hg,Array.getElem?_eq_getElem (by rw[hcs];omega)]
  rfl
end
abbrev AnyC:Unit→Array Value→Prop:=λ_ c=>c.size=18∧∀u∈c.toList,u.oneCell'=true
theorem anyC_plain:PlainR 18 AnyC:=⟨λh=>h.1,λh=>h.2⟩
theorem own_any {R:Lies Trip} (hR:∀{w:World} {F:Nat→Prop} {t:Trip} {c:Array Value},R w F t c→AnyC () c) {w:World} {F:Nat→Prop} {T:List Trip} {v:Value} (h:SOwn 41 18 R w F T v):POwn 41 18 AnyC w (List.replicate T.length ()) v:=by
 obtain⟨cs,hrow,h6,hF,hr⟩:=h
 refine⟨cs,by rw[List.length_replicate];exact hrow,λi x hx=>?_⟩
 obtain⟨hi,_⟩:=List.getElem?_eq_some_iff.1 hx
 rw[List.length_replicate]at hi
 exact hR (hr i _ (List.getElem?_eq_getElem hi))
theorem trR_any {w:World} {F:Nat→Prop} {t:Trip} {c:Array Value} (h:TrR w F t c):AnyC () c:=by
 obtain⟨ss,rfl,hr⟩:=h
 refine⟨rfl,one_tr λn hn=>?_⟩
 obtain⟨A,cap,e,_,_⟩:=(hr n hn).inv
 injection e with e
 have:=congrArg (λa:Array Value=>a[5]?) e
 exact⟨A,_,cap,by simpa [cellsV] using this⟩
theorem trS_any {w:World} {F:Nat→Prop} {t:Trip} {c:Array Value} (h:TrS w F t c):AnyC () c:=by
 obtain⟨_,_,ss,hs,rfl⟩:=h
 exact⟨rfl,one_tr λn hn=>by
  obtain⟨A,cap,e⟩:=hs n hn
  exact⟨A,0,cap,e⟩⟩
def zero18:Array Value:=#[.int .i64 0,.bool false,.int .i64 0,.string ⟨#[]⟩,.string ⟨#[]⟩,.slice none 0 0,.int .i64 0,.bool false,.int .i64 0,.string ⟨#[]⟩,.string ⟨#[]⟩,.slice none 0 0,.int .i64 0,.bool false,.int .i64 0,.string ⟨#[]⟩,.string ⟨#[]⟩,.slice none 0 0]
theorem zero_all:zero18.all (·.oneCell')=true:=by kernel_rfl
theorem zero18_any:AnyC () zero18:=⟨rfl,λu hu=>by
 have h:=zero_all
 rw[←Array.all_toList]at h
 exact List.all_eq_true.1 h u hu⟩
theorem info_zero:(Tryz.prog.info? 41).map (·.size)=some zero18.size:=by kernel_rfl
structure ZeroM (w0:World) (v:Value) (n k:Nat) (wx:World):Prop where
 t:Turn (λb=>v.ownBlock=some b) w0 wx
 own:POwn 41 18 AnyC wx (List.replicate n ()) v
 rest:∀b,v.ownBlock=some b→∀j,k*18≤j→wx.cell? ⟨b,j,none⟩=w0.cell? ⟨b,j,none⟩
section
variable {w0 wx w':World} {v:Value} {n k:Nat}
theorem ZeroM.start (h:POwn 41 18 AnyC w0 (List.replicate n ()) v):ZeroM w0 v n 0 w0:=⟨Turn.refl _ _,h,λ_ _ _ _=>rfl⟩
theorem ZeroM.on (h:ZeroM w0 v n k wx) (hb:Below wx.heap.size wx w'):ZeroM w0 v n k w':=
 ⟨⟨hb.os.trans h.t.os,hb.tape.trans h.t.tape,hb.output.trans h.t.output,Nat.le_trans h.t.size hb.size,λi hi hn=>(hb.block i (Nat.lt_of_lt_of_le hi h.t.size)).trans (h.t.block i hi hn)⟩,h.own.on hb,
  λb hv j hj=>(hb.cell (p:=⟨b,j,none⟩) (h.own.lt hv)).trans (h.rest b hv j hj)⟩
theorem zero_blk (h:POwn 41 18 AnyC wx (List.replicate n ()) v) (hn:0<n):∃g cap,v = .slice (some ⟨g,0,none⟩) n cap:=by
 obtain⟨cs,hrow,_⟩:=h
 rw[List.length_replicate]at hrow
 obtain⟨g,cp,hv,_,_⟩:=hrow.form hn
 exact⟨g,cp,hv⟩
theorem ZeroM.set {g cap:Nat} (h:ZeroM w0 (.slice (some ⟨g,0,none⟩) n cap) n k wx) (hk:k<n):ZeroM w0 (.slice (some ⟨g,0,none⟩) n cap) n (k+1) (wx.setCells g (k*18) zero18.toList):=by
 have hr:(List.replicate n ()).set k ()=List.replicate n ():=by
  refine List.ext_getElem (by simp) λi h1 h2=>?_
  simp
 refine⟨turn_cells (S:=λb=>(Value.slice (some ⟨g,0,none⟩) n cap).ownBlock=some b) g (.inr rfl) _ _ h.t,?_,λb hb j hj=>?_⟩
 ·have:=h.own.set anyC_plain (List.length_replicate ..) hk zero18_any
  rwa [hr]at this
 ·rw[World.cell?_setCells_out g _ _ _ ⟨b,j,none⟩ (λ_ _=>.inr (by
    show k*18+18≤j
    omega))]
  exact h.rest b hb j (by omega)
theorem ZeroM.there {g cap:Nat} (h:ZeroM w0 (.slice (some ⟨g,0,none⟩) n cap) n k wx) (hk:k<n):wx.there g (k*18) zero18.size:=h.own.there (List.length_replicate ..) hk
end
structure ZeroB (w0:World) (v:Value) (n:Nat) (wx:World):Prop where
 b:Below w0.heap.size w0 wx
 own:POwn 41 18 AnyC wx (List.replicate n ()) v
 new:∀g,v.ownBlock=some g→w0.heap.size≤g
section
variable {w0 wx w':World} {v:Value} {n k:Nat}
theorem ZeroB.on (h:ZeroB w0 v n wx) (hb:Below wx.heap.size wx w'):ZeroB w0 v n w':=⟨h.b.trans (hb.mono h.b.size),h.own.on hb,h.new⟩
theorem ZeroB.set {g cap:Nat} (h:ZeroB w0 (.slice (some ⟨g,0,none⟩) n cap) n wx) (hk:k<n):ZeroB w0 (.slice (some ⟨g,0,none⟩) n cap) n (wx.setCells g (k*18) zero18.toList):=by
 have hr:(List.replicate n ()).set k ()=List.replicate n ():=by
  refine List.ext_getElem (by simp) λi h1 h2=>?_
  simp
 refine⟨below_turnP h.b (turn_cells (S:=λb=>b=g) g (.inr rfl) _ _ (Turn.refl _ wx)) (λb e=>by rw[show b=g from e];exact h.new g rfl),?_,h.new⟩
 have:=h.own.set anyC_plain (List.length_replicate ..) hk zero18_any
 rwa [hr]at this
theorem ZeroB.there {g cap:Nat} (h:ZeroB w0 (.slice (some ⟨g,0,none⟩) n cap) n wx) (hk:k<n):wx.there g (k*18) zero18.size:=h.own.there (List.length_replicate ..) hk
end
theorem own_at {w:World} {F:Nat→Prop} {L:List Trip} {A:Option Addr} {n cap:Nat} (h:SOwn 41 18 TrR w F L (.slice A n cap)) (hn:L.length=n) {k:Nat} {t:Trip} (ht:L[k]?=some t) :
    ∃g ss,A=some ⟨g,0,none⟩∧F g∧(∀j,j<18→w.cell? ⟨g,k*18+j,none⟩=(cellsT t ss)[j]?)∧∀i,i<3→VRd w (λb=>F b∧b≠g) (t.get i) (.agg (cellsV (t.get i) (ss i))):=by
 subst hn
 obtain⟨cs,hrow,h6,hF,hr⟩:=h
 have hk:=idx_lt ht
 obtain⟨g,cp,hv,_,_⟩:=hrow.form (by omega)
 injection hv with hv _ hcp
 subst hv
 obtain⟨ss,e,hrd⟩:=hr k t ht
 refine⟨g,ss,rfl,hF g rfl,λj hj=>?_,λi hi=>(hrd i hi).mono λb hb=>⟨hb.1,λe2=>hb.2 (by rw[e2];rfl)⟩⟩
 have hij:k*18+j<L.length*18:=by omega
 have h1:=hrow.cellAt (k*18+j) hij
 rw[flatC_at h6 hk hj,e]at h1
 exact h1
theorem st_zero {P:Program} {ops:Array Oper} {rest:List Oper} {op:Oper} {a:Act} {w:World} {Q:Exit→Act→World→Prop} (hgd:op.guard=none) (ty:TypeId) (x y:Operand) (ho:op.op = .store ty x y) (ad:Addr) (g k:Nat) (he:ad=⟨g,0,none⟩) (hx:a.eval x = .pointer (some (ad.add (k*18)))) (hy:a.eval y = .agg zero18)
    (ht:w.there g (k*18) zero18.size) (hi:(P.info? ty).map (·.size)=some zero18.size)
    (h:wpList P ops Q rest (a.put op.dst undef) (w.setCells g (k*18) zero18.toList)):wpList P ops Q (op::rest) a w:=
 wpList_store_mid hgd ty x y ho g (k*18) zero18 (by rw[hx,he,Addr.add_mid,Nat.zero_add]) hy ht hi zero_all h
theorem keyT_fit {t:Trip} (h:ScalT t) (hf:∀n,FitV (t.get n)):KeyT t:=λn=>⟨scal_list (h.get n),hf n,by have:=(h.get n).2.1;omega⟩
abbrev CTx:Trip→Array Value→Prop:=λt c=>CellT c t
theorem own_rd {w:World} {F:Nat→Prop} {T:List Trip} {v:Value} (h:SOwn 41 18 TrS w F T v):∃A cap,v = .slice A T.length cap∧SRd 18 (ofP CTx) w F T A T.length:=by
 obtain⟨A,cap,e,_,hr⟩:=h.rd TrS.good
 exact⟨A,cap,e,hr.imp (λ_ h=>h) λt c ⟨h1,h2,ss,h3,h4⟩=>⟨keyT_fit h1 h2,ss,h3,h4⟩⟩
theorem rd_tr {w:World} {F:Nat→Prop} {T:List Trip} {A:Option Addr} {n:Nat} (h:SRd 18 (ofP CTx) w F T A n):SRd 18 TrR w F T A n:=h.imp (λ_ h=>h) λ_ _ h=>CellT.trR h w F
end Go.Proofs.YtefhfadjajcmkaaGreatDoor
