/- The reference's Load: printed by gen_YI.py. -/
import Derived.Test.YtefhfadjajcmkaaGreatDoorKM
set_option linter.unusedVariables false
set_option linter.unusedSimpArgs false
namespace Go.Proofs.YtefhfadjajcmkaaGreatDoor
open Go Go.RowKit Go.Maps
open Go.Lib (hid cell_of_heap)
abbrev CT:Trip→Array Value→Prop:=λt c=>CellT c t
def LoadR5Is (L:List Trip) (w:World) (e:Ending) (w':World):Prop:=
 (¬(L.length≤65536∧L.all mayT=true)∧e = .returned (.tuple #[.slice none 0 0,.int .i64 20])∧Below w.heap.size w w') ∨
 (L.length≤65536∧L.all mayT=true∧∃v,e = .returned (.tuple #[v,.int .i64 0])∧SOwn 41 18 TrR w' (λb=>w.heap.size≤b∧b<w'.heap.size) (loadR (along (wayN 0)) L) v∧Below w.heap.size w w')
theorem load_snoc {α : Type} {o:α → α → Int} {L:List α} {i:Nat} {y:α} (h:L[i]?=some y):loadR o (L.take (i+1))=insR o (loadR o (L.take i)) y:=by
 rw[take_oneMore h,loadR_snoc]
set_option maxRecDepth 100000 in
set_option maxHeartbeats 16000000 in
theorem refLoad_any {F:Nat→Prop} {w:World} (L:List Trip) (hok:∀t,t∈L→OkT t) {A:Option Addr} {n cp:Nat} (h:SRd 18 TrR w F L A n) (hF:∀b,F b→b<w.heap.size) (hn:n≤1000000000) :
    Calls Tryz.prog 13 #[.slice A n cp] w (LoadR5Is L w):=by
 have H1:=hid h
 have HF:=hid hF
 have L1:=hid h.1
 have HOK:=hid hok
 clear h hF hok
 go_enter Tryz.func13,Tryz.ntmps13
 by_cases hbig:65536<n
 ·have e1:(65536:Int)<n:=by omega
  have HE:=hid (show ∀w',Below w.heap.size w w'→LoadR5Is L w (.returned (.tuple #[.slice none 0 0,.int .i64 20])) w' from λw' hb=>.inl ⟨λh=>by have:=h.1;have:=L1.out;omega,rfl,hb⟩)
  go_wp2_with fail
  go_ret2
  exact HE.out _ (Below.refl _ _)
 ·have e1:¬(65536:Int)<n:=by omega
  have HN:=hid (show n≤65536 from by omega)
  go_wp2_with fail
  clear hn hbig e1
  go_loopw [4] (λs4 wx=>∃i:Nat,i≤n∧s4 = .int .i64 (i:Nat)∧Hid (Below w.heap.size w wx∧∀m t,m<i→L[m]?=some t→mayT t=true)) (λs4 _=>n-(intOf s4).toNat)
  case atStart=>exact⟨0,by omega,rfl,hid ⟨Below.refl _ _,λm t hm=>absurd hm (by omega)⟩⟩
  case round=>
   obtain⟨i,hi,rfl,hM⟩:=hrel
   by_cases hlt:i<n
   ·have a1:(0:Int)≤i:=by omega
    have a2:(i:Int)<n:=by omega
    have w1:IntKind.i64.wrap ((i:Int)+1)=(i:Int)+1:=IntWalk.i64_in _ (by have:=HN.out;omega)
    obtain⟨t,ht⟩:∃t,L[i]?=some t:=⟨_,List.getElem?_eq_getElem (by rw[←L1.out];exact hlt)⟩
    obtain⟨ad,ss,rfl,hfa,hq,hr⟩:=TrR.cells H1.out ht
    have HT:=hid ht
    have hmay:=λ(W:World) (hb:Below w.heap.size w W)=>refMayT_any t (HOK.out t (List.mem_of_getElem? ht)) F ss W (λg h=>Nat.lt_of_lt_of_le (HF.out g h) hb.size) (λq hq=>(hr q hq).under hb HF.out)
    unfold ToldB at hmay
    obtain⟨ct,Hct⟩:=name18 t ss
    rw[Hct.out]at hq hmay
    obtain⟨b,Hb⟩:=name_itV (mayT t)
    rw[Hb.out]at hmay
    have HMAY:=hid (hmay wr hM.out.1)
    have I1:=hid (infoTr.trans (congrArg some Hct.size.symm))
    have HQ1:=hid (λ(W:World) (hb:Below w.heap.size w W) (j:Nat) (hj:j<ct.size)=>(hb.cell (p:=(ad.add (i*18)).add j) (by rw[add_blk,add_blk];exact HF.out _ hfa)).trans (hq j hj))
    clear ht hfa hq hr hmay
    go_wp2_with ((with_reducible refine at_dst (some 21) ?_);refine ld_armG (by rfl) 41 _ rfl rfl ct _ (HQ1.out _ hM.out.1) Tryz.underlying41 rfl I1.out ?_)
    refine HMAY.out.mono ?_
    rintro e x ⟨rfl,hb⟩
    have HX:=hid (hM.out.1.trans (hb.mono hM.out.1.size))
    clear hb
    cases b with
    | false=>
     have HE:=hid (show LoadR5Is L w (.returned (.tuple #[.slice none 0 0,.int .i64 20])) x from .inl ⟨(λh=>by
      have h2:=List.all_eq_true.1 h.2 t (List.mem_of_getElem? HT.out)
      rw[Hb.out]at h2
      cases h2),rfl,HX.out⟩)
     go_wp2_with fail
     go_ret2
     exact HE.out
    | true=>
     go_wp2_with fail
     go_roundw
     case rel=>exact⟨i+1,by omega,by go_num,hid ⟨HX.out,λm u hm hu=>by
      by_cases e:m=i
      ·subst e
       rw[HT.out]at hu
       injection hu with hu
       subst hu
       exact Hb.out
      ·exact hM.out.2 m u (by omega) hu⟩⟩
     case measure=>simp[intOf];omega
   ·have a2:¬(i:Int)<n:=by omega
    have hie:i=n:=by omega
    subst hie
    have HALL:=hid (show L.all mayT=true from by
     rw[List.all_eq_true]
     intro t ht
     obtain⟨m,hm⟩:=List.getElem?_of_mem ht
     exact hM.out.2 m t (by have:=(List.getElem?_eq_some_iff.1 hm).1;have:=L1.out;omega) hm)
    have HKT:=hid (λt (ht:t∈L)=>(show KeyT t from keyT_of (mayT_scal (List.all_eq_true.1 HALL.out t ht) (HOK.out t ht)) (λn=>((HOK.out t ht).get n).fit)))
    have HST:=hid (LdP.startOn (E:=41) (sz:=18) (R:=CT) hM.out.1)
    obtain⟨i0,hif,hz0,hz1,hz2⟩:=info_parts infoTrs
    have HIF:=hid hif
    have HIZ:=hid hz0
    have HIS:=hid hz1
    have HIB:=hid hz2
    clear hif hz0 hz1 hz2 a2 hi
    obtain⟨w0,Hw0⟩:∃w0,w0=wr:=⟨_,rfl⟩
    go_wp2_with fail
    go_loopw [5,6] (λs5 s6 wx=>∃(j:Nat) (S:Value),j≤i∧s6 = .int .i64 (j:Nat)∧S=s5∧Hid (LdP 41 18 CT w (loadR (along (wayN 0)) (L.take j)) S wx)) (λ_ s6 _=>i-(intOf s6).toNat)
    case atStart=>exact⟨0,_,by omega,rfl,rfl,HST.out⟩
    case round=>
     obtain⟨j,S,hj,rfl,rfl,hN⟩:=hrel
     by_cases hjl:j<i
     ·have a1:(0:Int)≤j:=by omega
      have a2:(j:Int)<i:=by omega
      have w1:IntKind.i64.wrap ((j:Int)+1)=(j:Int)+1:=IntWalk.i64_in _ (by have:=HN.out;omega)
      obtain⟨y,hy⟩:∃y,L[j]?=some y:=⟨_,List.getElem?_eq_getElem (by rw[←L1.out];exact hjl)⟩
      obtain⟨ad,cy,e,hfa,hs18,hq,hr⟩:=H1.out.at_ hy
      subst e
      have HY:=hid hy
      have HCY:=hid (hr.cellT (HKT.out y (List.mem_of_getElem? hy)))
      have ZY:=hid hs18
      have IY:=hid (infoTr.trans (congrArg some hs18.symm))
      have HQY:=hid (λ(W:World) (hb:Below w.heap.size w W) (q:Nat) (hq':q<cy.size)=>(show W.cell? ((ad.add (j*18)).add q)=cy[q]? from by
       rw[add_of_add,hb.cell (p:=ad.add (j*18+q)) (by rw[add_blk];exact HF.out _ hfa)]
       exact hq q (by omega)))
      have HJL:=hid hjl
      obtain⟨l,Hl⟩:=name_itV (loadR (along (wayN 0)) (L.take j))
      have hN2:=hN.out
      rw[Hl.out]at hN2
      obtain⟨m,Hm⟩:=name_itV l.length
      have HM65:=hid (show m≤65536 from by have h1:=loadR_len (along (wayN 0)) (L.take j);rw[Hl.out,Hm.out,List.length_take]at h1;have:=HN.out;omega)
      obtain⟨A5,c5,rfl,hmc,hnil⟩:∃A c,S = .slice A m c∧m≤c∧(A=none→c=0):=by
       obtain⟨A,c,e,h1,h2⟩:=hN2.own.form
       rw[Hm.out]at e h1
       exact⟨A,c,e,h1,h2⟩
      have HMC:=hid hmc
      have HNIL:=hid hnil
      have HN2:=hid hN2
      have HSNOC:=hid (show loadR (along (wayN 0)) (L.take (j+1))=insR (along (wayN 0)) l y from by rw[load_snoc hy,Hl.out])
      clear hy hfa hs18 hq hr hjl hN hN2 hmc hnil
      go_wp2_with fail
      obtain⟨w1',Hw1⟩:∃w1',w1'=wr:=⟨_,rfl⟩
      go_loopw [7] (λs7 wx=>∃k:Nat,k≤m∧s7 = .int .i64 (k:Nat)∧Hid (LdP 41 18 CT w l (.slice A5 m c5) wx∧spotR (along (wayN 0)) y l m=spotR (along (wayN 0)) y l k)) (λs7 _=>(intOf s7).toNat)
      case atStart=>exact⟨m,by omega,rfl,hid ⟨HN2.out,rfl⟩⟩
      case round=>
       obtain⟨k,hk,rfl,hQ⟩:=hrel
       clear HN2
       by_cases hk0:k=0
       ·have HM:=hid hQ.out.1
        have HINS:=hid (show insR (along (wayN 0)) l y=l.take k++([y]++l.drop k) from by
         rw[hk0]
         exact ins_none (by rw[Hm.out,hQ.out.2,hk0];exact spot_zero))
        have HK:=hid hk
        have g0:¬(0:Int)<k:=by omega
        have g1:¬0<k:=by omega
        clear hQ hk0
        go_upto_region 13 with fail
        refine wp_region_held_drew (S:=λW'=>LdP 41 18 CT w l (.slice A5 m c5) W') (by kernel_rfl) HM.out.drew (λhH=>?_)
        refine Boxed.out ?_
        refine tkV 0 32 (.int .i64 (k:Nat)) hH (λhH=>?_)
        try simp only[Act.put,aT,aZ,aS]
        refine tkV 1 33 (.bool false) hH (λhH=>?_)
        try simp only[Act.put,aT,aZ,aS]
        refine tkV 2 34 (.bool false) hH (λhH=>?_)
        try simp only[Act.put,aT,aZ,aS]
        refine take_skip 3 35 (by kernel_rfl) (by rfl) (by kernel_rfl) (by kernel_rfl) (by kernel_rfl) (λ_ _ _ h=>h) hH (λhH=>?_)
        try simp only[Act.put,aT,aZ,aS]
        refine take_skip 4 36 (by kernel_rfl) (by rfl) (by kernel_rfl) (by kernel_rfl) (by kernel_rfl) (λ_ _ _ h=>h) hH (λhH=>?_)
        try simp only[Act.put,aT,aZ,aS]
        refine take_skip 5 37 (by kernel_rfl) (by rfl) (by kernel_rfl) (by kernel_rfl) (by kernel_rfl) (λ_ _ _ h=>h) hH (λhH=>?_)
        try simp only[Act.put,aT,aZ,aS]
        refine take_skip 6 38 (by kernel_rfl) (by rfl) (by kernel_rfl) (by kernel_rfl) (by kernel_rfl) (λ_ _ _ h=>h) hH (λhH=>?_)
        try simp only[Act.put,aT,aZ,aS]
        refine take_skip 7 39 (by kernel_rfl) (by rfl) (by kernel_rfl) (by kernel_rfl) (by kernel_rfl) (λ_ _ _ h=>h) hH (λhH=>?_)
        try simp only[Act.put,aT,aZ,aS]
        refine take_skip 8 40 (by kernel_rfl) (by rfl) (by kernel_rfl) (by kernel_rfl) (by kernel_rfl) (λ_ _ _ h=>h) hH (λhH=>?_)
        try simp only[Act.put,aT,aZ,aS]
        refine take_skip 9 41 (by kernel_rfl) (by rfl) (by kernel_rfl) (by kernel_rfl) (by kernel_rfl) (λ_ _ _ h=>h) hH (λhH=>?_)
        try simp only[Act.put,aT,aZ,aS]
        refine take_skip 10 42 (by kernel_rfl) (by rfl) (by kernel_rfl) (by kernel_rfl) (by kernel_rfl) (λ_ _ _ h=>h) hH (λhH=>?_)
        try simp only[Act.put,aT,aZ,aS]
        refine take_skip 11 43 (by kernel_rfl) (by rfl) (by kernel_rfl) (by kernel_rfl) (by kernel_rfl) (λ_ _ _ h=>h) hH (λhH=>?_)
        try simp only[Act.put,aT,aZ,aS]
        refine take_skip 12 44 (by kernel_rfl) (by rfl) (by kernel_rfl) (by kernel_rfl) (by kernel_rfl) (λ_ _ _ h=>h) hH (λhH=>?_)
        try simp only[Act.put,aT,aZ,aS]
        refine take_skip 13 45 (by kernel_rfl) (by rfl) (by kernel_rfl) (by kernel_rfl) (by kernel_rfl) (λ_ _ _ h=>h) hH (λhH=>?_)
        try simp only[Act.put,aT,aZ,aS]
        refine tkV 14 46 (.bool false) hH (λhH=>?_)
        try simp only[Act.put,aT,aZ,aS]
        refine⟨wpAnyH_done (by kernel_rfl) ?_ _⟩
        go_upto_region 15 with fail
        refine wp_region_held_drew (S:=λW'=>LdP 41 18 CT w l (.slice A5 m c5) W') (by kernel_rfl) hH.drew (λhH=>?_)
        refine Boxed.out ?_
        refine tkV 0 49 (.int .i64 (k:Nat)) hH (λhH=>?_)
        try simp only[Act.put,aT,aZ,aS]
        refine tkV 1 50 (.bool false) hH (λhH=>?_)
        try simp only[Act.put,aT,aZ,aS]
        refine tkV 2 51 (.bool false) hH (λhH=>?_)
        try simp only[Act.put,aT,aZ,aS]
        refine take_skip 3 52 (by kernel_rfl) (by rfl) (by kernel_rfl) (by kernel_rfl) (by kernel_rfl) (λ_ _ _ h=>h) hH (λhH=>?_)
        try simp only[Act.put,aT,aZ,aS]
        refine take_skip 4 53 (by kernel_rfl) (by rfl) (by kernel_rfl) (by kernel_rfl) (by kernel_rfl) (λ_ _ _ h=>h) hH (λhH=>?_)
        try simp only[Act.put,aT,aZ,aS]
        refine take_skip 5 54 (by kernel_rfl) (by rfl) (by kernel_rfl) (by kernel_rfl) (by kernel_rfl) (λ_ _ _ h=>h) hH (λhH=>?_)
        try simp only[Act.put,aT,aZ,aS]
        refine take_skip 6 55 (by kernel_rfl) (by rfl) (by kernel_rfl) (by kernel_rfl) (by kernel_rfl) (λ_ _ _ h=>h) hH (λhH=>?_)
        try simp only[Act.put,aT,aZ,aS]
        refine take_skip 7 56 (by kernel_rfl) (by rfl) (by kernel_rfl) (by kernel_rfl) (by kernel_rfl) (λ_ _ _ h=>h) hH (λhH=>?_)
        try simp only[Act.put,aT,aZ,aS]
        refine take_skip 8 57 (by kernel_rfl) (by rfl) (by kernel_rfl) (by kernel_rfl) (by kernel_rfl) (λ_ _ _ h=>h) hH (λhH=>?_)
        try simp only[Act.put,aT,aZ,aS]
        refine take_skip 9 58 (by kernel_rfl) (by rfl) (by kernel_rfl) (by kernel_rfl) (by kernel_rfl) (λ_ _ _ h=>h) hH (λhH=>?_)
        try simp only[Act.put,aT,aZ,aS]
        refine take_skip 10 59 (by kernel_rfl) (by rfl) (by kernel_rfl) (by kernel_rfl) (by kernel_rfl) (λ_ _ _ h=>h) hH (λhH=>?_)
        try simp only[Act.put,aT,aZ,aS]
        refine take_skip 11 60 (by kernel_rfl) (by rfl) (by kernel_rfl) (by kernel_rfl) (by kernel_rfl) (λ_ _ _ h=>h) hH (λhH=>?_)
        try simp only[Act.put,aT,aZ,aS]
        refine take_skip 12 61 (by kernel_rfl) (by rfl) (by kernel_rfl) (by kernel_rfl) (by kernel_rfl) (λ_ _ _ h=>h) hH (λhH=>?_)
        try simp only[Act.put,aT,aZ,aS]
        refine take_skip 13 62 (by kernel_rfl) (by rfl) (by kernel_rfl) (by kernel_rfl) (by kernel_rfl) (λ_ _ _ h=>h) hH (λhH=>?_)
        try simp only[Act.put,aT,aZ,aS]
        refine tkV 14 63 (.bool false) hH (λhH=>?_)
        try simp only[Act.put,aT,aZ,aS]
        refine⟨wpAnyH_done (by kernel_rfl) ?_ _⟩
        have HM2:=hid hH
        clear hH HM
        go_upto_region 17 with fail
        obtain⟨A1',c1',hs1,hn1,ha1⟩:=slice_to (k:=k) und_tr sizeOf_tr (A:=A5) (n:=m) (c:=c5) HK.out HMC.out HNIL.out
        obtain⟨A3',c3',hs3,hn3,ha3⟩:=slice_from (k:=k) und_tr sizeOf_tr (A:=A5) (n:=m) (c:=c5) HK.out HMC.out HNIL.out
        have HSL1:=hid hs1
        have HSL3:=hid hs3
        have HNL1:=hid hn1
        have HNL3:=hid hn3
        have HAA1:=hid ha1
        have HAA3:=hid ha3
        clear hs1 hs3 hn1 hn3 ha1 ha3
        have HI0:=hid (InP.start HM2.out)
        have HSR1:=hid ((HI0.out.l.own.rd cellT_plain (F:=λb=>(Value.slice A5 m c5).ownBlock=some b) (λ_ h=>h) Hm.out).part_to HK.out HAA1.out)
        go_upto_region 18 with (first
         | ((with_reducible refine at_dst (some 67) ?_);refine val_arm rfl (.slice A1' k c1') (val_of (HSL1.out _)) ?_)
         | ((with_reducible refine at_dst (some 68) ?_);refine wpList_app_P cellT_plain rfl (.tmp 64) (.tmp 67) 22 rfl i0 _ Tryz.underlying22 HIF.out HIZ.out HIS.out HIB.out rfl (by decide) rfl HI0.out.n.own rfl rfl HSR1.out HNL1.out (by have:=HM65.out;have:=HK.out;simp;omega) (by decide) ?_;intro v1 y1 ho1 hg1 hv1))
        have HI1:=hid (HI0.out.app ho1 hg1 hv1)
        clear ho1 hg1 hv1
        have HI2:=hid (HI1.out.on ((Below.refl _ _).alloc (Nat.le_refl _) (.cells cy 41)))
        have HY2:=hid (one_rd cellT_plain HCY.out y1 41)
        go_upto_region 19 with (first
         | ((with_reducible refine at_dst (some 73) ?_);refine ld_armG (by rfl) 41 _ rfl rfl cy _ (HQY.out _ HI1.out.l.hb) Tryz.underlying41 rfl IY.out ?_)
         | ((with_reducible refine at_dst (some 74) ?_);refine bs_arm rfl 22 1 _ rfl #[(0,.agg cy)] (by kernel_rfl) (.slice (some ⟨y1.heap.size,0,none⟩) 1 1) _ (bs1_run cy ZY.out y1) ?_)
         | ((with_reducible refine at_dst (some 75) ?_);refine wpList_app_P cellT_plain rfl (.tmp 69) (.tmp 74) 22 rfl i0 _ Tryz.underlying22 HIF.out HIZ.out HIS.out HIB.out rfl (by decide) rfl HI2.out.n.own rfl rfl HY2.out (λh=>by cases h) (by have:=HM65.out;have:=HK.out;simp;omega) (by decide) ?_;intro v2 y2 ho2 hg2 hv2))
        have HI3:=hid (HI2.out.app ho2 hg2 hv2)
        clear ho2 hg2 hv2 HI2 HI1 HI0 HSR1
        have HSR3:=hid ((HI3.out.l.own.rd cellT_plain (F:=λb=>(Value.slice A5 m c5).ownBlock=some b) (λ_ h=>h) Hm.out).part_from HK.out HAA3.out)
        go_wp2_with (first
         | ((with_reducible refine at_dst (some 79) ?_);refine val_arm rfl (.slice A3' (m-k) c3') (val_of (HSL3.out _)) ?_)
         | ((with_reducible refine at_dst (some 80) ?_);refine wpList_app_P cellT_plain rfl (.tmp 76) (.tmp 79) 22 rfl i0 _ Tryz.underlying22 HIF.out HIZ.out HIS.out HIB.out rfl (by decide) rfl HI3.out.n.own rfl rfl HSR3.out HNL3.out (by have:=HM65.out;have:=HK.out;simp;omega) (by decide) ?_;intro v3 y3 ho3 hg3 hv3))
        have HI4:=hid (HI3.out.app ho3 hg3 hv3)
        clear ho3 hg3 hv3 HI3 HSR3
        go_wp2_with fail
        go_roundw
        case rel=>exact⟨j+1,_,by have:=HJL.out;omega,by go_num,rfl,hid (by
         have h:=HI4.out.done
         rw[List.nil_append,List.append_assoc]at h
         rw[HSNOC.out,HINS.out]
         exact h)⟩
        case measure=>have:=HJL.out;simp[intOf];omega
       ·obtain⟨k',hk'⟩:∃k',k=k'+1:=⟨k-1,by omega⟩
        have g0:(0:Int)<k:=by omega
        have g1:0<k:=by omega
        have HWK:=hid (show IntKind.i64.wrap ((k:Int)-1)=(k':Int) from by rw[IntWalk.i64_in _ (by have:=HM65.out;omega)];omega)
        have HKK:=hid hk'
        have HK:=hid hk
        have HKL:=hid (show k'<m from by omega)
        obtain⟨x,hx⟩:∃x,l[k']?=some x:=⟨_,List.getElem?_eq_getElem (by rw[Hm.out];omega)⟩
        obtain⟨ad5,cx,rfl,hlt5,hcx,hqx⟩:=hQ.out.1.own.cell cellT_plain Hm.out hx
        have HX:=hid hx
        have HLT5:=hid hlt5
        have IX:=hid (infoTr.trans (congrArg some (CellT.size hcx).symm))
        have HQX:=hid (λ(W:World) (hb:Below wr.heap.size wr W) (q:Nat) (hq':q<cx.size)=>(hb.cell (p:=(ad5.add (k'*18)).add q) (by rw[add_blk,add_blk];exact hlt5)).trans (hqx q hq'))
        have hcmp:=λW=>refCmpT_any (a:=x) (b:=y) hcx HCY.out W
        unfold AlIs at hcmp
        obtain⟨om,Hom⟩:=name_itV (along (wayN 0) x y)
        rw[Hom.out]at hcmp
        have HCMP:=hid hcmp
        have HM:=hid hQ.out.1
        have HSP:=hid hQ.out.2
        clear hx hlt5 hcx hqx hcmp hQ hk'
        go_upto_region 13 with fail
        refine wp_region_held_drew (S:=λW'=>LdP 41 18 CT w l (.slice (some ad5) m c5) W'∧∀q,q<cx.size→W'.cell? ((ad5.add (k'*18)).add q)=cx[q]?) (by kernel_rfl) ⟨HM.out.drew,HQX.out _ (Below.refl _ _).drew⟩ (λhH=>?_)
        refine Boxed.out ?_
        refine tkV 0 32 (.int .i64 (k:Nat)) hH (λhH=>?_)
        try simp only[Act.put,aT,aZ,aS]
        refine tkV 1 33 (.bool true) hH (λhH=>?_)
        try simp only[Act.put,aT,aZ,aS]
        refine tkV 2 34 (.bool true) hH (λhH=>?_)
        try simp only[Act.put,aT,aZ,aS]
        refine tkV 3 35 (.slice (some ad5) m c5) hH (λhH=>?_)
        try simp only[Act.put,aT,aZ,aS]
        refine tkV 4 36 (.int .i64 (k:Nat)) hH (λhH=>?_)
        try simp only[Act.put,aT,aZ,aS]
        refine tkW 5 37 (.int .i64 (k':Nat)) hH (λw hSw=>?_) (λhH=>?_)
        ·have p:=HWK.out
         unfold runsTo
         go_simp
        try simp only[Act.put,aT,aZ,aS]
        refine tkW 6 38 (.pointer (some (ad5.add (k'*18)))) hH (λw hSw=>?_) (λhH=>?_)
        ·exact val_of (idx_tr ad5 m c5 k' HKL.out w)
        try simp only[Act.put,aT,aZ,aS]
        refine tkW 7 39 (.agg cx) hH (λw hSw=>?_) (λhH=>?_)
        ·have p:=run_loadVar_at w (ad5.add (k'*18)) 41 cx _ hSw.2 Tryz.underlying41 rfl IX.out
         exact val_of (by simp only[Instr.loadAt,Instr.sureAddr,Sem.run_bind];exact p)
        try simp only[Act.put,aT,aZ,aS]
        refine tkV 8 40 (.slice (some ad) i cp) hH (λhH=>?_)
        try simp only[Act.put,aT,aZ,aS]
        refine tkV 9 41 (.int .i64 (j:Nat)) hH (λhH=>?_)
        try simp only[Act.put,aT,aZ,aS]
        refine tkW 10 42 (.pointer (some (ad.add (j*18)))) hH (λw hSw=>?_) (λhH=>?_)
        ·exact val_of (idx_tr ad i cp j HJL.out w)
        try simp only[Act.put,aT,aZ,aS]
        refine tkW 11 43 (.agg cy) hH (λw hSw=>?_) (λhH=>?_)
        ·have p:=run_loadVar_at w (ad.add (j*18)) 41 cy _ (HQY.out _ hSw.1.hb) Tryz.underlying41 rfl IY.out
         exact val_of (by simp only[Instr.loadAt,Instr.sureAddr,Sem.run_bind];exact p)
        try simp only[Act.put,aT,aZ,aS]
        refine tkC 12 (λK hK=>?_)
        change Oper.wp _ ⟨some 44,_,_,_,_,_⟩ _ _ _ _
        go_simp
        refine (HCMP.out _).mono ?_
        rintro e x1 ⟨rfl,hb⟩
        have HSZ0:=hid (show wr.heap.size≤x1.heap.size from hb.size)
        have HHX:=hid (show LdP 41 18 CT w l (.slice (some ad5) m c5) x1∧∀q,q<cx.size→x1.cell? ((ad5.add (k'*18)).add q)=cx[q]? from ⟨hH.1.on hb,λq hq=>by
         have hlt5:ad5.block<wr.drew.heap.size:=HLT5.out
         exact (hb.cell (p:=(ad5.add (k'*18)).add q) (by rw[add_blk,add_blk];exact hlt5)).trans (hH.2 q hq)⟩)
        clear hb
        dsimp only
        refine hK.out _ _ HHX.out (λhH=>?_)
        clear hK K
        try simp only[Act.put,aT,aZ,aS]
        by_cases hom:0<om
        ·have hom':(0:Int)<om:=hom
         refine tkV 13 45 (.bool true) hH (λhH=>?_)
         try simp only[Act.put,aT,aZ,aS]
         refine tkV 14 46 (.bool true) hH (λhH=>?_)
         try simp only[Act.put,aT,aZ,aS]
         refine⟨wpAnyH_done (by kernel_rfl) ?_ _⟩
         have HMX:=hid hH.1
         clear hH
         have wk:wrap64 ((k:Int)-1)=(k':Int):=(IntWalk.wrap64_in _ (by have h2:k=k'+1:=HKK.out;have:=HM65.out;have:=HK.out;omega)).trans (by have h2:k=k'+1:=HKK.out;omega)
         go_wp2_with fail
         go_roundw
         case rel=>exact⟨k',by have:=HKL.out;omega,by go_num,hid ⟨HMX.out,by have h1:=HSP.out;have h2:k=k'+1:=HKK.out;rw[h1,h2];exact spot_down HX.out (by rw[Hom.out];exact hom)⟩⟩
         case measure=>have h2:k=k'+1:=HKK.out;simp[intOf];omega
        ·have hom':¬(0:Int)<om:=hom
         refine tkV 13 45 (.bool false) hH (λhH=>?_)
         try simp only[Act.put,aT,aZ,aS]
         refine tkV 14 46 (.bool false) hH (λhH=>?_)
         try simp only[Act.put,aT,aZ,aS]
         refine⟨wpAnyH_done (by kernel_rfl) ?_ _⟩
         have HSPK:=hid (show spotR (along (wayN 0)) y l l.length=k'+1 from by have h1:=HSP.out;have h2:k=k'+1:=HKK.out;rw[Hm.out,h1,h2];exact spot_here HX.out (by rw[Hom.out];exact hom))
         have HMX:=hid hH.1
         have HSZ1:=hid (show wr.heap.size≤x1.drew.heap.size from HSZ0.out)
         have HQX2:=hid hH.2
         clear hH
         go_upto_region 15 with fail
         refine wp_region_held_drew (S:=λW'=>LdP 41 18 CT w l (.slice (some ad5) m c5) W'∧∀q,q<cx.size→W'.cell? ((ad5.add (k'*18)).add q)=cx[q]?) (by kernel_rfl) ⟨HMX.out.drew,HQX2.out⟩ (λhH=>?_)
         refine Boxed.out ?_
         refine tkV 0 49 (.int .i64 (k:Nat)) hH (λhH=>?_)
         try simp only[Act.put,aT,aZ,aS]
         refine tkV 1 50 (.bool true) hH (λhH=>?_)
         try simp only[Act.put,aT,aZ,aS]
         refine tkV 2 51 (.bool true) hH (λhH=>?_)
         try simp only[Act.put,aT,aZ,aS]
         refine tkV 3 52 (.slice (some ad5) m c5) hH (λhH=>?_)
         try simp only[Act.put,aT,aZ,aS]
         refine tkV 4 53 (.int .i64 (k:Nat)) hH (λhH=>?_)
         try simp only[Act.put,aT,aZ,aS]
         refine tkW 5 54 (.int .i64 (k':Nat)) hH (λw hSw=>?_) (λhH=>?_)
         ·have p:=HWK.out
          unfold runsTo
          go_simp
         try simp only[Act.put,aT,aZ,aS]
         refine tkW 6 55 (.pointer (some (ad5.add (k'*18)))) hH (λw hSw=>?_) (λhH=>?_)
         ·exact val_of (idx_tr ad5 m c5 k' HKL.out w)
         try simp only[Act.put,aT,aZ,aS]
         refine tkW 7 56 (.agg cx) hH (λw hSw=>?_) (λhH=>?_)
         ·have p:=run_loadVar_at w (ad5.add (k'*18)) 41 cx _ hSw.2 Tryz.underlying41 rfl IX.out
          exact val_of (by simp only[Instr.loadAt,Instr.sureAddr,Sem.run_bind];exact p)
         try simp only[Act.put,aT,aZ,aS]
         refine tkV 8 57 (.slice (some ad) i cp) hH (λhH=>?_)
         try simp only[Act.put,aT,aZ,aS]
         refine tkV 9 58 (.int .i64 (j:Nat)) hH (λhH=>?_)
         try simp only[Act.put,aT,aZ,aS]
         refine tkW 10 59 (.pointer (some (ad.add (j*18)))) hH (λw hSw=>?_) (λhH=>?_)
         ·exact val_of (idx_tr ad i cp j HJL.out w)
         try simp only[Act.put,aT,aZ,aS]
         refine tkW 11 60 (.agg cy) hH (λw hSw=>?_) (λhH=>?_)
         ·have p:=run_loadVar_at w (ad.add (j*18)) 41 cy _ (HQY.out _ hSw.1.hb) Tryz.underlying41 rfl IY.out
          exact val_of (by simp only[Instr.loadAt,Instr.sureAddr,Sem.run_bind];exact p)
         try simp only[Act.put,aT,aZ,aS]
         refine tkC 12 (λK hK=>?_)
         change Oper.wp _ ⟨some 61,_,_,_,_,_⟩ _ _ _ _
         go_simp
         refine (HCMP.out _).mono ?_
         rintro e x2 ⟨rfl,hb⟩
         have HHX:=hid (show LdP 41 18 CT w l (.slice (some ad5) m c5) x2∧∀q,q<cx.size→x2.cell? ((ad5.add (k'*18)).add q)=cx[q]? from ⟨hH.1.on hb,λq hq=>by
          have hlt5:ad5.block<x1.drew.heap.size:=Nat.lt_of_lt_of_le HLT5.out HSZ1.out
          exact (hb.cell (p:=(ad5.add (k'*18)).add q) (by rw[add_blk,add_blk];exact hlt5)).trans (hH.2 q hq)⟩)
         clear hb
         dsimp only
         refine hK.out _ _ HHX.out (λhH=>?_)
         clear hK K
         try simp only[Act.put,aT,aZ,aS]
         by_cases hom0:om=0
         ·subst hom0
          refine tkV 13 62 (.bool true) hH (λhH=>?_)
          try simp only[Act.put,aT,aZ,aS]
          refine tkV 14 63 (.bool true) hH (λhH=>?_)
          try simp only[Act.put,aT,aZ,aS]
          refine⟨wpAnyH_done (by kernel_rfl) ?_ _⟩
          have HM2:=hid hH.1
          clear hH
          go_wp2_with fail
          go_roundw
          case rel=>exact⟨j+1,_,by have:=HJL.out;omega,by go_num,rfl,hid (by rw[HSNOC.out,ins_same HX.out HSPK.out Hom.out];exact HM2.out)⟩
          case measure=>have:=HJL.out;simp[intOf];omega
         ·have hom1:¬om=0:=hom0
          have HINS:=hid (show insR (along (wayN 0)) l y=l.take k++([y]++l.drop k) from by have h2:k=k'+1:=HKK.out;rw[h2];exact ins_here HX.out HSPK.out (by rw[Hom.out];exact hom0))
          refine tkV 13 62 (.bool false) hH (λhH=>?_)
          try simp only[Act.put,aT,aZ,aS]
          refine tkV 14 63 (.bool false) hH (λhH=>?_)
          try simp only[Act.put,aT,aZ,aS]
          refine⟨wpAnyH_done (by kernel_rfl) ?_ _⟩
          have HM2:=hid hH.1
          clear hH
          go_upto_region 17 with fail
          obtain⟨A1',c1',hs1,hn1,ha1⟩:=slice_to (k:=k) und_tr sizeOf_tr (A:=(some ad5)) (n:=m) (c:=c5) HK.out HMC.out HNIL.out
          obtain⟨A3',c3',hs3,hn3,ha3⟩:=slice_from (k:=k) und_tr sizeOf_tr (A:=(some ad5)) (n:=m) (c:=c5) HK.out HMC.out HNIL.out
          have HSL1:=hid hs1
          have HSL3:=hid hs3
          have HNL1:=hid hn1
          have HNL3:=hid hn3
          have HAA1:=hid ha1
          have HAA3:=hid ha3
          clear hs1 hs3 hn1 hn3 ha1 ha3
          have HI0:=hid (InP.start HM2.out)
          have HSR1:=hid ((HI0.out.l.own.rd cellT_plain (F:=λb=>(Value.slice (some ad5) m c5).ownBlock=some b) (λ_ h=>h) Hm.out).part_to HK.out HAA1.out)
          go_upto_region 18 with (first
           | ((with_reducible refine at_dst (some 67) ?_);refine val_arm rfl (.slice A1' k c1') (val_of (HSL1.out _)) ?_)
           | ((with_reducible refine at_dst (some 68) ?_);refine wpList_app_P cellT_plain rfl (.tmp 64) (.tmp 67) 22 rfl i0 _ Tryz.underlying22 HIF.out HIZ.out HIS.out HIB.out rfl (by decide) rfl HI0.out.n.own rfl rfl HSR1.out HNL1.out (by have:=HM65.out;have:=HK.out;simp;omega) (by decide) ?_;intro v1 y1 ho1 hg1 hv1))
          have HI1:=hid (HI0.out.app ho1 hg1 hv1)
          clear ho1 hg1 hv1
          have HI2:=hid (HI1.out.on ((Below.refl _ _).alloc (Nat.le_refl _) (.cells cy 41)))
          have HY2:=hid (one_rd cellT_plain HCY.out y1 41)
          go_upto_region 19 with (first
           | ((with_reducible refine at_dst (some 73) ?_);refine ld_armG (by rfl) 41 _ rfl rfl cy _ (HQY.out _ HI1.out.l.hb) Tryz.underlying41 rfl IY.out ?_)
           | ((with_reducible refine at_dst (some 74) ?_);refine bs_arm rfl 22 1 _ rfl #[(0,.agg cy)] (by kernel_rfl) (.slice (some ⟨y1.heap.size,0,none⟩) 1 1) _ (bs1_run cy ZY.out y1) ?_)
           | ((with_reducible refine at_dst (some 75) ?_);refine wpList_app_P cellT_plain rfl (.tmp 69) (.tmp 74) 22 rfl i0 _ Tryz.underlying22 HIF.out HIZ.out HIS.out HIB.out rfl (by decide) rfl HI2.out.n.own rfl rfl HY2.out (λh=>by cases h) (by have:=HM65.out;have:=HK.out;simp;omega) (by decide) ?_;intro v2 y2 ho2 hg2 hv2))
          have HI3:=hid (HI2.out.app ho2 hg2 hv2)
          clear ho2 hg2 hv2 HI2 HI1 HI0 HSR1
          have HSR3:=hid ((HI3.out.l.own.rd cellT_plain (F:=λb=>(Value.slice (some ad5) m c5).ownBlock=some b) (λ_ h=>h) Hm.out).part_from HK.out HAA3.out)
          go_wp2_with (first
           | ((with_reducible refine at_dst (some 79) ?_);refine val_arm rfl (.slice A3' (m-k) c3') (val_of (HSL3.out _)) ?_)
           | ((with_reducible refine at_dst (some 80) ?_);refine wpList_app_P cellT_plain rfl (.tmp 76) (.tmp 79) 22 rfl i0 _ Tryz.underlying22 HIF.out HIZ.out HIS.out HIB.out rfl (by decide) rfl HI3.out.n.own rfl rfl HSR3.out HNL3.out (by have:=HM65.out;have:=HK.out;simp;omega) (by decide) ?_;intro v3 y3 ho3 hg3 hv3))
          have HI4:=hid (HI3.out.app ho3 hg3 hv3)
          clear ho3 hg3 hv3 HI3 HSR3
          go_wp2_with fail
          go_roundw
          case rel=>exact⟨j+1,_,by have:=HJL.out;omega,by go_num,rfl,hid (by
           have h:=HI4.out.done
           rw[List.nil_append,List.append_assoc]at h
           rw[HSNOC.out,HINS.out]
           exact h)⟩
          case measure=>have:=HJL.out;simp[intOf];omega
     ·have hje:j=i:=by omega
      subst hje
      have a2:¬(j:Int)<j:=by omega
      have HFIN:=hid (show L.take j=L from List.take_of_length_le (by have:=L1.out;omega))
      have hN2:=hN.out
      rw[HFIN.out]at hN2
      obtain⟨T,HT⟩:=name_itV (loadR (along (wayN 0)) L)
      rw[HT.out]at hN2
      obtain⟨m,Hm⟩:=name_itV T.length
      obtain⟨A5,c5,rfl,hmc,hnil⟩:∃A c,S = .slice A m c∧m≤c∧(A=none→c=0):=by
       obtain⟨A,c,e,h1,h2⟩:=hN2.own.form
       rw[Hm.out]at e h1
       exact⟨A,c,e,h1,h2⟩
      have HMT:=hid (show ∀t,t∈T→KeyT t from λt ht=>by
       have hl:=loadR_is (along_pre (wayN 0)) (l:=L) (λa ha b hb h0=>along_eq (wayN_ok 0) (mayT_scal (List.all_eq_true.1 HALL.out a ha) (HOK.out a ha)) (mayT_scal (List.all_eq_true.1 HALL.out b hb) (HOK.out b hb)) h0)
       rw[HT.out]at hl
       exact HKT.out t ((hl.2 t).1 ht))
      have HLN:=hid (show m≤65536 from by have h1:=loadR_len (along (wayN 0)) L;rw[HT.out,Hm.out]at h1;have:=HN.out;have:=L1.out;omega)
      have HSR:=hid ((hN2.own.rd cellT_plain (F:=λb=>b<wr.heap.size) (λb hb=>hN2.own.lt hb) Hm.out).imp (R':=TrR) (λ_ h=>h) (λt c h=>CellT.trR h wr _))
      have HB:=hid hN2.hb
      clear hN hN2 hmc hnil
      go_wp2_with fail
      refine (copyTs_any HSR.out (λb hb=>hb) (by have:=HLN.out;omega) (λt ht q=>by rw[(HMT.out t ht q).list];decide)).mono ?_
      unfold CopyTsIs
      rintro e x ⟨v,rfl,hown,hb⟩
      have HE:=hid (show LoadR5Is L w (.returned (.tuple #[v,.int .i64 0])) x from .inr ⟨by have:=HN.out;have:=L1.out;omega,HALL.out,v,rfl,by rw[HT.out];exact hown.mono TrR.good (λb hb2=>⟨Nat.le_trans HB.out.size hb2.1,hb2.2⟩),HB.out.trans (hb.mono HB.out.size)⟩)
      clear hown hb
      go_wp2_with fail
      go_ret2
      exact HE.out
end Go.Proofs.YtefhfadjajcmkaaGreatDoor
