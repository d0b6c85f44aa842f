/- The reference's keys: printed by gen_YN.py. -/
import Derived.Test.YtijciakkfpjjbaaGreatDoorPJ
set_option linter.unusedSimpArgs false
namespace Go.Proofs.YtijciakkfpjjbaaGreatDoor
open Go Go.RowKit Go.Maps
open Go.Lib (hid cell_of_heap)
theorem ordCV_any {a b:Val} {ca cb:Array Value} (ha:CellV ca a) (hb:CellV cb b) (w:World):Calls Tryz.prog 15 #[.int .i64 1,.agg ca,.agg cb] w (OrdIs a b w):=by
 obtain⟨ka,A,c,rfl⟩:=ha
 obtain⟨kb,B,d,rfl⟩:=hb
 exact refOrder_any a b _ _ w ka.k5 ka.fit kb.fit
theorem sameCV_any {a b:Val} {ca cb:Array Value} (ha:CellV ca a) (hb:CellV cb b) (w:World):Calls Tryz.prog 28 #[.agg ca,.agg cb] w (ToldB (sameB a b) w):=by
 obtain⟨ka,A,c,rfl⟩:=ha
 obtain⟨kb,B,d,rfl⟩:=hb
 exact sameK_any ka kb A B c d w
def KBx (w:World) (l:List Val) (S:Value) (v:Val) (s9:Value) (wx:World):Prop:=∃z9 u,s9 = .pointer (some ⟨z9,0,none⟩)∧LdP 34 6 CV w l S wx∧wx.heap[z9]?=some (.cells u 34 (0,0))∧CellV u v
theorem bsv_list (x0 x1 x2 x3 x4 x5:Value) (w:World):(Instr.buildSlice 32 1 #[(0,.agg #[x0,x1,x2,x3,x4,x5])]).run Tryz.prog w = .ok (.slice (some ⟨w.heap.size,0,none⟩) 1 1) (w.alloc (.cells #[x0,x1,x2,x3,x4,x5] 34)):=by kernel_rfl
theorem bsv_run (c:Array Value) (hc:c.size=6) (w:World):(Instr.buildSlice 32 1 #[(0,.agg c)]).run Tryz.prog w = .ok (.slice (some ⟨w.heap.size,0,none⟩) 1 1) (w.alloc (.cells c 34)):=by
 obtain⟨l⟩:=c
 match l,hc with
 | [x0,x1,x2,x3,x4,x5],_=>exact bsv_list x0 x1 x2 x3 x4 x5 w
set_option maxRecDepth 100000 in
set_option maxHeartbeats 32000000 in
theorem keysR_any {F:Nat→Prop} {q j:Nat} {T:List Trip} {c:CurA} {A:Option Addr} {nT cA:Nat} {W:Value} {w:World} (h:RcM F q j T c A nT cA W w) (hj:j<6) (n:Nat) (hn3:n<3) (hn:n≤c.way.length) (hkt:∀t,t∈T→KeyT t) (hl:nT≤65536) :
    Calls Tryz.prog 60 #[.pointer (some ⟨q,0,none⟩),.int .i64 (n:Nat)] w (KeysIs (keysA T (wayN j) (c.way.take n)) w):=by
 obtain⟨pre,Hpre⟩:=name_itV (c.way.take n)
 have HPL:=hid (show pre.length=n from by rw[←Hpre.out,List.length_take];omega)
 rw[Hpre.out]
 have HC:=hid (λ(V:World) (hb:Below w.heap.size w V)=>h.on hb)
 have HJ:=hid hj
 have HN3:=hid hn3
 have HNN:=hid hn
 have HKT:=hid hkt
 have HL:=hid hl
 have HNT:=hid (show T.length=nT from h.list.1.symm)
 have HRC:=hid h
 have HST:=hid (LdP.start (E:=34) (sz:=6) (R:=CV) w)
 obtain⟨i0,hif,hz0,hz1,hz2⟩:=info_parts infoVs
 have HIF:=hid hif
 have HIZ:=hid hz0
 have HIS:=hid hz1
 have HIB:=hid hz2
 clear hif hz0 hz1 hz2 h hj hn3 hn hkt hl
 go_enter Tryz.func60,Tryz.ntmps60
 go_wp2_with fail
 go_loopw [5,6] (λs5 s6 wx=>∃(i:Nat) (S:Value),i≤nT∧s6 = .int .i64 (i:Nat)∧S=s5∧Hid (LdP 34 6 CV w (keysK T (wayN j) pre i) S wx)) (λ_ s6 _=>nT-(intOf s6).toNat)
 case atStart=>exact⟨0,_,by omega,rfl,rfl,HST.out⟩
 case round=>
  obtain⟨i,S,hi,rfl,rfl,hM⟩:=hrel
  clear HST
  have f0:=(HC.out wr hM.out.hb).f0
  by_cases hlt:i<nT
  ·have a1:(0:Int)≤i:=by omega
   have a2:(i:Int)<nT:=by omega
   have HW1:=hid (show IntKind.i64.wrap ((i:Int)+1)=(i:Int)+1 from IntWalk.i64_in _ (by have:=HL.out;omega))
   obtain⟨t,ht⟩:∃t,T[i]?=some t:=⟨_,List.getElem?_eq_getElem (by rw[HNT.out];exact hlt)⟩
   obtain⟨ad,ct,e,hfa,hs18,hq,hr⟩:=HRC.out.list.at_ ht
   subst e
   have HT:=hid ht
   have HCT:=hid (hr.cellT (HKT.out t (List.mem_of_getElem? ht)))
   have IT:=hid (infoTr.trans (congrArg some hs18.symm))
   have HFA:=hid (show ad.block<w.heap.size from Nat.lt_trans (HRC.out.fl _ hfa) (blk_lt HRC.out.cur))
   have HQT:=hid (λ(V:World) (hb:Below w.heap.size w V) (x:Nat) (hx:x<ct.size)=>(show V.cell? ((ad.add (i*18)).add x)=ct[x]? from by
    rw[add_of_add,hb.cell (p:=ad.add (i*18+x)) (by rw[add_blk];exact HFA.out)]
    exact hq x (by omega)))
   have HLT:=hid hlt
   obtain⟨l,Hl⟩:=name_itV (keysK T (wayN j) pre i)
   have hN2:=hM.out
   rw[Hl.out]at hN2
   obtain⟨m,Hm⟩:=name_itV l.length
   have HM65:=hid (show m≤65536 from by have h1:=keysK_len (w:=wayN j) (pre:=pre) (i:=i) (T:=T) (by rw[HNT.out];omega);rw[Hl.out,Hm.out]at h1;have:=HL.out;omega)
   obtain⟨A5,c5,rfl,hmc,hnil⟩:∃A c,S = .slice A m c∧m≤c∧(A=none→c=0):=by
    obtain⟨A,c,e,h1,h2⟩:=hN2.own.form
    rw[Hm.out]at e h1
    exact⟨A,c,e,h1,h2⟩
   have HMC:=hid hmc
   have HNIL:=hid hnil
   have HN2:=hid hN2
   clear ht hfa hs18 hq hr hlt hM hN2 hmc hnil
   go_wp2_with fail
   clear f0
   obtain⟨w0',Hw0⟩:∃w0',w0'=wr:=⟨_,rfl⟩
   go_loopw [7,8] (λs7 s8 wx=>∃k:Nat,k≤n∧s8 = .int .i64 (k:Nat)∧s7 = .bool (okK (wayN j) pre t k)∧Hid (LdP 34 6 CV w l (.slice A5 m c5) wx)) (λ_ s8 _=>n-(intOf s8).toNat)
   case atStart=>exact⟨0,by omega,rfl,by rw[okK_zero],HN2.out⟩
   case round=>
    obtain⟨k,hk,rfl,rfl,hQ⟩:=hrel
    clear HN2
    obtain⟨ob,Hob⟩:=name_itV (okK (wayN j) pre t k)
    rw[Hob.out]
    by_cases hkn:k<n
    ·have b1:(0:Int)≤k:=by omega
     have b2:(k:Int)<n:=by omega
     have w2:IntKind.i64.wrap ((k:Int)+1)=(k:Int)+1:=IntWalk.i64_in _ (by have:=HN3.out;omega)
     have HKN:=hid hkn
     have HK3:=hid (show k<3 from by have:=HN3.out;omega)
     obtain⟨x,hx⟩:∃x,c.way[k]?=some x:=⟨_,List.getElem?_eq_getElem (by have:=HNN.out;omega)⟩
     have HX:=hid (show pre[k]?=some x from by rw[←Hpre.out,List.getElem?_take_of_lt hkn];exact hx)
     obtain⟨nw,Hnw⟩:=name_itV c.way.length
     obtain⟨Aw,cw,eW,_,_⟩:=HRC.out.way.form
     rw[Hnw.out]at eW
     have hwy:=HRC.out.way
     rw[eW]at hwy
     obtain⟨adw,cv,eA,hlw,hcv,hqw⟩:=hwy.cell cellV_plain Hnw.out hx
     subst eA
     have HCV:=hid hcv
     have IV:=hid (infoV6.trans (congrArg some (CellV.size hcv).symm))
     have HQW:=hid (λ(V:World) (hb:Below w.heap.size w V) (y:Nat) (hy:y<cv.size)=>(hb.cell (p:=(adw.add (k*6)).add y) (by rw[add_blk,add_blk];exact hlw)).trans (hqw y hy))
     have HKW:=hid (show k<nw from by have:=HNN.out;have h2:=Hnw.out;omega)
     have HC2:=hid (λ(V:World) (hb:Below w.heap.size w V)=>(show V.cell? ⟨q,2,none⟩=some (.slice (some adw) nw cw) from by have h2:=(HC.out V hb).f2;rwa [eW]at h2))
     obtain⟨p,Hp⟩:=name_itV ((wayN j).get k)
     have HP3:=hid (show p<3 from by rw[←Hp.out];exact (wayN_ok j).lt k)
     have HIX:=hid (idx_way_str j k HJ.out HK3.out)
     rw[Hp.out]at HIX
     clear hx hwy hlw hcv hqw hkn eW
     go_upto_region 9 with fail
     refine wp_region_held_drew (S:=λW'=>LdP 34 6 CV w l (.slice A5 m c5) W') (by kernel_rfl) hQ.out.drew (λhHeld=>?_)
     refine Boxed.out ?_
     cases ob with
     | false=>
      refine tkW 0 26 (.bool false) hHeld (λw hSw=>?_) (λhHeld=>?_)
      ·unfold runsTo
       go_simp
      try simp only[Act.put,aT,aZ,aS]
      refine tkW 1 27 (.bool false) hHeld (λw hSw=>?_) (λhHeld=>?_)
      ·unfold runsTo
       go_simp
      try simp only[Act.put,aT,aZ,aS]
      refine take_skip 2 28 (by kernel_rfl) (by rfl) (by kernel_rfl) (by kernel_rfl) (by kernel_rfl) (λ_ _ _ h=>h) hHeld (λhHeld=>?_)
      try simp only[Act.put,aT,aZ,aS]
      refine take_skip 3 29 (by kernel_rfl) (by rfl) (by kernel_rfl) (by kernel_rfl) (by kernel_rfl) (λ_ _ _ h=>h) hHeld (λhHeld=>?_)
      try simp only[Act.put,aT,aZ,aS]
      refine take_skip 4 30 (by kernel_rfl) (by rfl) (by kernel_rfl) (by kernel_rfl) (by kernel_rfl) (λ_ _ _ h=>h) hHeld (λhHeld=>?_)
      try simp only[Act.put,aT,aZ,aS]
      refine take_skip 5 31 (by kernel_rfl) (by rfl) (by kernel_rfl) (by kernel_rfl) (by kernel_rfl) (λ_ _ _ h=>h) hHeld (λhHeld=>?_)
      try simp only[Act.put,aT,aZ,aS]
      refine take_skip 6 32 (by kernel_rfl) (by rfl) (by kernel_rfl) (by kernel_rfl) (by kernel_rfl) (λ_ _ _ h=>h) hHeld (λhHeld=>?_)
      try simp only[Act.put,aT,aZ,aS]
      refine take_skip 7 33 (by kernel_rfl) (by rfl) (by kernel_rfl) (by kernel_rfl) (by kernel_rfl) (λ_ _ _ h=>h) hHeld (λhHeld=>?_)
      try simp only[Act.put,aT,aZ,aS]
      refine take_skip 8 34 (by kernel_rfl) (by rfl) (by kernel_rfl) (by kernel_rfl) (by kernel_rfl) (λ_ _ _ h=>h) hHeld (λhHeld=>?_)
      try simp only[Act.put,aT,aZ,aS]
      refine take_skip 9 35 (by kernel_rfl) (by rfl) (by kernel_rfl) (by kernel_rfl) (by kernel_rfl) (λ_ _ _ h=>h) hHeld (λhHeld=>?_)
      try simp only[Act.put,aT,aZ,aS]
      refine take_skip 10 36 (by kernel_rfl) (by rfl) (by kernel_rfl) (by kernel_rfl) (by kernel_rfl) (λ_ _ _ h=>h) hHeld (λhHeld=>?_)
      try simp only[Act.put,aT,aZ,aS]
      refine take_skip 11 37 (by kernel_rfl) (by rfl) (by kernel_rfl) (by kernel_rfl) (by kernel_rfl) (λ_ _ _ h=>h) hHeld (λhHeld=>?_)
      try simp only[Act.put,aT,aZ,aS]
      refine take_skip 12 38 (by kernel_rfl) (by rfl) (by kernel_rfl) (by kernel_rfl) (by kernel_rfl) (λ_ _ _ h=>h) hHeld (λhHeld=>?_)
      try simp only[Act.put,aT,aZ,aS]
      refine take_skip 13 39 (by kernel_rfl) (by rfl) (by kernel_rfl) (by kernel_rfl) (by kernel_rfl) (λ_ _ _ h=>h) hHeld (λhHeld=>?_)
      try simp only[Act.put,aT,aZ,aS]
      refine take_skip 14 40 (by kernel_rfl) (by rfl) (by kernel_rfl) (by kernel_rfl) (by kernel_rfl) (λ_ _ _ h=>h) hHeld (λhHeld=>?_)
      try simp only[Act.put,aT,aZ,aS]
      refine take_skip 15 41 (by kernel_rfl) (by rfl) (by kernel_rfl) (by kernel_rfl) (by kernel_rfl) (λ_ _ _ h=>h) hHeld (λhHeld=>?_)
      try simp only[Act.put,aT,aZ,aS]
      refine take_skip 16 42 (by kernel_rfl) (by rfl) (by kernel_rfl) (by kernel_rfl) (by kernel_rfl) (λ_ _ _ h=>h) hHeld (λhHeld=>?_)
      try simp only[Act.put,aT,aZ,aS]
      refine take_skip 17 43 (by kernel_rfl) (by rfl) (by kernel_rfl) (by kernel_rfl) (by kernel_rfl) (λ_ _ _ h=>h) hHeld (λhHeld=>?_)
      try simp only[Act.put,aT,aZ,aS]
      refine take_skip 18 44 (by kernel_rfl) (by rfl) (by kernel_rfl) (by kernel_rfl) (by kernel_rfl) (λ_ _ _ h=>h) hHeld (λhHeld=>?_)
      try simp only[Act.put,aT,aZ,aS]
      refine take_skip 19 45 (by kernel_rfl) (by rfl) (by kernel_rfl) (by kernel_rfl) (by kernel_rfl) (λ_ _ _ h=>h) hHeld (λhHeld=>?_)
      try simp only[Act.put,aT,aZ,aS]
      refine take_skip 20 46 (by kernel_rfl) (by rfl) (by kernel_rfl) (by kernel_rfl) (by kernel_rfl) (λ_ _ _ h=>h) hHeld (λhHeld=>?_)
      try simp only[Act.put,aT,aZ,aS]
      refine take_skip 21 47 (by kernel_rfl) (by rfl) (by kernel_rfl) (by kernel_rfl) (by kernel_rfl) (λ_ _ _ h=>h) hHeld (λhHeld=>?_)
      try simp only[Act.put,aT,aZ,aS]
      refine take_skip 22 48 (by kernel_rfl) (by rfl) (by kernel_rfl) (by kernel_rfl) (by kernel_rfl) (λ_ _ _ h=>h) hHeld (λhHeld=>?_)
      try simp only[Act.put,aT,aZ,aS]
      refine take_skip 23 49 (by kernel_rfl) (by rfl) (by kernel_rfl) (by kernel_rfl) (by kernel_rfl) (λ_ _ _ h=>h) hHeld (λhHeld=>?_)
      try simp only[Act.put,aT,aZ,aS]
      refine tkW 24 50 (.bool false) hHeld (λw hSw=>?_) (λhHeld=>?_)
      ·unfold runsTo
       go_simp
      try simp only[Act.put,aT,aZ,aS]
      refine tkW 25 7 (.bool false) hHeld (λw hSw=>?_) (λhHeld=>?_)
      ·unfold runsTo
       go_simp
      try simp only[Act.put,aT,aZ,aS]
      refine⟨wpAnyH_done (by kernel_rfl) ?_ _⟩
      have HQ2:=hid hHeld
      clear hHeld
      go_wp2_with fail
      go_roundw
      case rel=>exact⟨k+1,by have:=HKN.out;omega,by go_num,by rw[okK_false Hob.out],HQ2.out⟩
      case measure=>have:=HKN.out;simp[intOf];omega
     | true=>
      refine tkW 0 26 (.bool true) hHeld (λw hSw=>?_) (λhHeld=>?_)
      ·unfold runsTo
       go_simp
      try simp only[Act.put,aT,aZ,aS]
      refine tkW 1 27 (.bool true) hHeld (λw hSw=>?_) (λhHeld=>?_)
      ·unfold runsTo
       go_simp
      try simp only[Act.put,aT,aZ,aS]
      refine tkW 2 28 (.pointer (some ⟨q,0,none⟩)) hHeld (λw hSw=>?_) (λhHeld=>?_)
      ·unfold runsTo
       go_simp
      try simp only[Act.put,aT,aZ,aS]
      refine tkW 3 29 (.pointer (some ⟨q,0,none⟩)) hHeld (λw hSw=>?_) (λhHeld=>?_)
      ·unfold runsTo
       go_simp
      try simp only[Act.put,aT,aZ,aS]
      refine tkW 4 30 (.pointer (some ⟨q,0,none⟩)) hHeld (λw hSw=>?_) (λhHeld=>?_)
      ·unfold runsTo
       go_simp
      try simp only[Act.put,aT,aZ,aS]
      refine tkW 5 31 (.slice (some ad) nT cA) hHeld (λw hSw=>?_) (λhHeld=>?_)
      ·have p:=(HC.out _ hSw.hb).f0
       unfold runsTo
       go_simp
      try simp only[Act.put,aT,aZ,aS]
      refine tkW 6 32 (.int .i64 (i:Nat)) hHeld (λw hSw=>?_) (λhHeld=>?_)
      ·unfold runsTo
       go_simp
      try simp only[Act.put,aT,aZ,aS]
      refine tkW 7 33 (.pointer (some (ad.add (i*18)))) hHeld (λw hSw=>?_) (λhHeld=>?_)
      ·exact val_of (idx_tr ad nT cA i HLT.out w)
      try simp only[Act.put,aT,aZ,aS]
      refine tkW 8 34 (.agg ct) hHeld (λw hSw=>?_) (λhHeld=>?_)
      ·have p:=run_loadVar_at w (ad.add (i*18)) 41 ct _ (HQT.out _ hSw.hb) Tryz.underlying41 rfl IT.out
       exact val_of (by simp only[Instr.loadAt,Instr.sureAddr,Sem.run_bind];exact p)
      try simp only[Act.put,aT,aZ,aS]
      refine tkW 9 35 (.pointer (some ⟨q,0,none⟩)) hHeld (λw hSw=>?_) (λhHeld=>?_)
      ·unfold runsTo
       go_simp
      try simp only[Act.put,aT,aZ,aS]
      refine tkW 10 36 (.pointer (some ⟨q,0,none⟩)) hHeld (λw hSw=>?_) (λhHeld=>?_)
      ·unfold runsTo
       go_simp
      try simp only[Act.put,aT,aZ,aS]
      refine tkW 11 37 (.pointer (some ⟨q,1,none⟩)) hHeld (λw hSw=>?_) (λhHeld=>?_)
      ·unfold runsTo
       go_simp
      try simp only[Act.put,aT,aZ,aS]
      refine tkW 12 38 (.string (wayT j)) hHeld (λw hSw=>?_) (λhHeld=>?_)
      ·have p:=(HC.out _ hSw.hb).f1
       unfold runsTo
       go_simp
      try simp only[Act.put,aT,aZ,aS]
      refine tkW 13 39 (.int .i64 (k:Nat)) hHeld (λw hSw=>?_) (λhHeld=>?_)
      ·unfold runsTo
       go_simp
      try simp only[Act.put,aT,aZ,aS]
      refine tkW 14 40 (.int .u8 (ltrP p)) hHeld (λw hSw=>?_) (λhHeld=>?_)
      ·exact val_of (HIX.out w)
      try simp only[Act.put,aT,aZ,aS]
      refine tkW 16 42 (.pointer (some ⟨q,0,none⟩)) hHeld (λw hSw=>?_) (λhHeld=>?_)
      ·unfold runsTo
       go_simp
      try simp only[Act.put,aT,aZ,aS]
      refine tkW 17 43 (.pointer (some ⟨q,0,none⟩)) hHeld (λw hSw=>?_) (λhHeld=>?_)
      ·unfold runsTo
       go_simp
      try simp only[Act.put,aT,aZ,aS]
      refine tkW 18 44 (.pointer (some ⟨q,2,none⟩)) hHeld (λw hSw=>?_) (λhHeld=>?_)
      ·unfold runsTo
       go_simp
      try simp only[Act.put,aT,aZ,aS]
      refine tkW 19 45 (.slice (some adw) nw cw) hHeld (λw hSw=>?_) (λhHeld=>?_)
      ·have p:=HC2.out _ hSw.hb
       unfold runsTo
       go_simp
      try simp only[Act.put,aT,aZ,aS]
      refine tkW 20 46 (.int .i64 (k:Nat)) hHeld (λw hSw=>?_) (λhHeld=>?_)
      ·unfold runsTo
       go_simp
      try simp only[Act.put,aT,aZ,aS]
      refine tkW 21 47 (.pointer (some (adw.add (k*6)))) hHeld (λw hSw=>?_) (λhHeld=>?_)
      ·exact val_of (idx_val adw nw cw k HKW.out w)
      try simp only[Act.put,aT,aZ,aS]
      refine tkW 22 48 (.agg cv) hHeld (λw hSw=>?_) (λhHeld=>?_)
      ·have p:=run_loadVar_at w (adw.add (k*6)) 34 cv _ (HQW.out _ hSw.hb) Tryz.underlying34 rfl IV.out
       exact val_of (by simp only[Instr.loadAt,Instr.sureAddr,Sem.run_bind];exact p)
      try simp only[Act.put,aT,aZ,aS]
      refine tkC 15 (λK hK=>?_)
      change Oper.wp _ ⟨some 41,_,_,_,_,_⟩ _ _ _ _
      go_simp
      refine (partR_any HCT.out p HP3.out _).mono ?_
      unfold PartRIs
      rintro e x1 ⟨u1,rfl,hcu,hb⟩
      have HCU:=hid hcu
      have HH1:=hid (hHeld.on hb)
      clear hcu hb
      dsimp only
      refine hK.out _ _ HH1.out (λhHeld=>?_)
      clear hK K
      try simp only[Act.put,aT,aZ,aS]
      refine tkC 23 (λK hK=>?_)
      change Oper.wp _ ⟨some 49,_,_,_,_,_⟩ _ _ _ _
      go_simp
      refine (sameCV_any HCU.out HCV.out _).mono ?_
      unfold ToldB
      rintro e x2 ⟨rfl,hb⟩
      have HH2:=hid (hHeld.on hb)
      clear hb
      dsimp only
      refine hK.out _ _ HH2.out (λhHeld=>?_)
      clear hK K
      try simp only[Act.put,aT,aZ,aS]
      refine tkW 24 50 (.bool (sameB (t.get p) x)) hHeld (λw hSw=>?_) (λhHeld=>?_)
      ·unfold runsTo
       go_simp
      try simp only[Act.put,aT,aZ,aS]
      refine tkW 25 7 (.bool (sameB (t.get p) x)) hHeld (λw hSw=>?_) (λhHeld=>?_)
      ·unfold runsTo
       go_simp
      try simp only[Act.put,aT,aZ,aS]
      refine⟨wpAnyH_done (by kernel_rfl) ?_ _⟩
      have HQ2:=hid hHeld
      clear hHeld
      go_wp2_with fail
      go_roundw
      case rel=>exact⟨k+1,by have:=HKN.out;omega,by go_num,by rw[okK_succ Hob.out HX.out,Hp.out],HQ2.out⟩
      case measure=>have:=HKN.out;simp[intOf];omega
    ·have hke:k=n:=by omega
     have b2:¬(k:Int)<n:=by omega
     have HKE:=hid hke
     clear hke hkn
     cases ob with
     | false=>
      have HNB:=hid (show ¬Begins (wayN j) pre t from λhb=>by
       have h1:=okK_all.2 hb
       have h2:=Hob.out
       rw[HKE.out,←HPL.out,h1]at h2
       cases h2)
      have w1:IntKind.i64.wrap ((i:Int)+1)=(i:Int)+1:=HW1.out
      have HQ2:=hid hQ.out
      clear hQ
      go_wp2_with fail
      go_roundw
      case rel=>exact⟨i+1,_,by have:=HLT.out;omega,by go_num,rfl,hid (by rw[keysK_no HT.out HNB.out,Hl.out];exact HQ2.out)⟩
      case measure=>have:=HLT.out;simp[intOf];omega
     | true=>
      have HBG:=hid (show Begins (wayN j) pre t from okK_all.1 (by rw[HPL.out,←HKE.out];exact Hob.out))
      have HSNOC:=hid (show keysK T (wayN j) pre (i+1)=insR ordV l (t.get ((wayN j).get n)) from by rw[keysK_yes HT.out HBG.out,Hl.out,HPL.out])
      obtain⟨p,Hp⟩:=name_itV ((wayN j).get n)
      have HP3:=hid (show p<3 from by rw[←Hp.out];exact (wayN_ok j).lt n)
      have HIX:=hid (idx_way_str j n HJ.out HN3.out)
      rw[Hp.out]at HIX
      obtain⟨v,Hv⟩:=name_itV (t.get p)
      rw[Hp.out,Hv.out]at HSNOC
      go_upto_region 11 with fail
      go_cut [9] (λs9 wx=>KBx w l (.slice A5 m c5) v s9 wx)
      case first=>
       refine wp_region_held_drew (S:=λW'=>LdP 34 6 CV w l (.slice A5 m c5) W') (by kernel_rfl) hQ.out.drew (λhHeld=>?_)
       refine Boxed.out ?_
       refine tkW 0 53 (.pointer (some ⟨q,0,none⟩)) hHeld (λw hSw=>?_) (λhHeld=>?_)
       ·unfold runsTo
        go_simp
       try simp only[Act.put,aT,aZ,aS]
       refine tkW 1 54 (.pointer (some ⟨q,0,none⟩)) hHeld (λw hSw=>?_) (λhHeld=>?_)
       ·unfold runsTo
        go_simp
       try simp only[Act.put,aT,aZ,aS]
       refine tkW 2 55 (.pointer (some ⟨q,0,none⟩)) hHeld (λw hSw=>?_) (λhHeld=>?_)
       ·unfold runsTo
        go_simp
       try simp only[Act.put,aT,aZ,aS]
       refine tkW 3 56 (.slice (some ad) nT cA) hHeld (λw hSw=>?_) (λhHeld=>?_)
       ·have p:=(HC.out _ hSw.hb).f0
        unfold runsTo
        go_simp
       try simp only[Act.put,aT,aZ,aS]
       refine tkW 4 57 (.int .i64 (i:Nat)) hHeld (λw hSw=>?_) (λhHeld=>?_)
       ·unfold runsTo
        go_simp
       try simp only[Act.put,aT,aZ,aS]
       refine tkW 5 58 (.pointer (some (ad.add (i*18)))) hHeld (λw hSw=>?_) (λhHeld=>?_)
       ·exact val_of (idx_tr ad nT cA i HLT.out w)
       try simp only[Act.put,aT,aZ,aS]
       refine tkW 6 59 (.agg ct) hHeld (λw hSw=>?_) (λhHeld=>?_)
       ·have p:=run_loadVar_at w (ad.add (i*18)) 41 ct _ (HQT.out _ hSw.hb) Tryz.underlying41 rfl IT.out
        exact val_of (by simp only[Instr.loadAt,Instr.sureAddr,Sem.run_bind];exact p)
       try simp only[Act.put,aT,aZ,aS]
       refine tkW 7 60 (.pointer (some ⟨q,0,none⟩)) hHeld (λw hSw=>?_) (λhHeld=>?_)
       ·unfold runsTo
        go_simp
       try simp only[Act.put,aT,aZ,aS]
       refine tkW 8 61 (.pointer (some ⟨q,0,none⟩)) hHeld (λw hSw=>?_) (λhHeld=>?_)
       ·unfold runsTo
        go_simp
       try simp only[Act.put,aT,aZ,aS]
       refine tkW 9 62 (.pointer (some ⟨q,1,none⟩)) hHeld (λw hSw=>?_) (λhHeld=>?_)
       ·unfold runsTo
        go_simp
       try simp only[Act.put,aT,aZ,aS]
       refine tkW 10 63 (.string (wayT j)) hHeld (λw hSw=>?_) (λhHeld=>?_)
       ·have p:=(HC.out _ hSw.hb).f1
        unfold runsTo
        go_simp
       try simp only[Act.put,aT,aZ,aS]
       refine tkW 11 64 (.int .i64 (n:Nat)) hHeld (λw hSw=>?_) (λhHeld=>?_)
       ·unfold runsTo
        go_simp
       try simp only[Act.put,aT,aZ,aS]
       refine tkW 12 65 (.int .u8 (ltrP p)) hHeld (λw hSw=>?_) (λhHeld=>?_)
       ·exact val_of (HIX.out w)
       try simp only[Act.put,aT,aZ,aS]
       refine take_two 13 14 (by kernel_rfl) (by rfl) (by rfl) (λK hK=>?_) (λK hK=>?_)
       ·change Oper.wp _ ⟨some 66,_,_,_,_,_⟩ _ _ _ _
        go_simp
        refine (partR_any HCT.out p HP3.out _).mono ?_
        unfold PartRIs
        rintro e x1 ⟨u1,rfl,hcu,hb⟩
        rw[Hv.out]at hcu
        have HCU:=hid hcu
        have HH1:=hid (hHeld.on hb)
        have SU:=hid (show u1.size=(#[.int .i64 0,.bool false,.int .i64 0,.string ⟨#[]⟩,.string ⟨#[]⟩,.slice none 0 0]:Array Value).size from by rw[CellV.size hcu];rfl)
        have IU:=hid (infoV6.trans (congrArg some (CellV.size hcu).symm))
        have OU:=hid (show u1.all (·.oneCell')=true from by obtain⟨_,A,cp,rfl⟩:=hcu;kernel_rfl)
        clear hcu hb
        dsimp only
        refine hK.out _ _ HH1.out (λhHeld=>?_)
        clear hK K
        try simp only[Act.put,aT,aZ,aS]
        obtain⟨z9,Hz9⟩:=name_itV x1.heap.size
        obtain⟨x3,Hx3⟩:=name_itV (x1.alloc (.cells #[.int .i64 0,.bool false,.int .i64 0,.string ⟨#[]⟩,.string ⟨#[]⟩,.slice none 0 0] 34))
        have HA3:=hid (show x3.heap[z9]?=some (.cells #[.int .i64 0,.bool false,.int .i64 0,.string ⟨#[]⟩,.string ⟨#[]⟩,.slice none 0 0] 34 (0,0)) from by rw[←Hx3.out,←Hz9.out];exact heap_alloc_new x1 _)
        have HH3:=hid (show LdP 34 6 CV w l (.slice A5 m c5) x3 from by rw[←Hx3.out];exact HH1.out.on ((Below.refl _ _).alloc (Nat.le_refl _) _))
        refine tkC 14 (λK hK=>?_)
        unfold wpAt
        go_simp
        rw[Hx3.out,Hz9.out]
        refine hK.out _ _ HH3.out (λhHeld=>?_)
        clear hK K
        try simp only[Act.put,aT,aZ,aS]
        have HZL:=hid (show w.heap.size≤z9 from by have:=HH1.out.hb.size;have h2:x1.heap.size=z9:=Hz9.out;omega)
        have HZO:=hid (show ∀b,(Value.slice A5 m c5).ownBlock=some b→b<z9 from λb hb=>by have:=HH1.out.own.lt hb;have h2:x1.heap.size=z9:=Hz9.out;omega)
        refine tkC 15 (λK hK=>?_)
        change Oper.wp _ ⟨none,_,_,_,_,_⟩ _ _ _ _
        refine st_rowW 34 _ _ rfl z9 (#[.int .i64 0,.bool false,.int .i64 0,.string ⟨#[]⟩,.string ⟨#[]⟩,.slice none 0 0]) u1 34 rfl rfl HA3.out SU.out IU.out OU.out ?_
        intro y9 hw9 ht9
        have HH9:=hid (show LdP 34 6 CV w l (.slice A5 m c5) y9 from ⟨below_turn hHeld.hb ht9 (λb hb=>by have hb:b=z9:=hb;have:=HZL.out;omega),hHeld.own.turn ht9 (λb hb e=>by have e:b=z9:=e;have:=HZO.out b hb;omega),hHeld.ow⟩)
        have HW9:=hid hw9
        clear hw9 ht9
        refine hK.out _ _ HH9.out (λhHeld=>?_)
        clear hK K
        try simp only[Act.put,aT,aZ,aS]
        refine⟨wpAnyH_done (by kernel_rfl) ?_ _⟩
        clear hHeld
        go_wp2_with fail
        go_meet
        exact⟨z9,u1,rfl,HH9.out,HW9.out,HCU.out⟩
       ·skip
        obtain⟨z9,Hz9⟩:=name_itV wr.heap.size
        obtain⟨x3,Hx3⟩:=name_itV (wr.alloc (.cells #[.int .i64 0,.bool false,.int .i64 0,.string ⟨#[]⟩,.string ⟨#[]⟩,.slice none 0 0] 34))
        have HA3:=hid (show x3.drew.heap[z9]?=some (.cells #[.int .i64 0,.bool false,.int .i64 0,.string ⟨#[]⟩,.string ⟨#[]⟩,.slice none 0 0] 34 (0,0)) from by rw[←Hx3.out,←Hz9.out];exact heap_alloc_new wr _)
        have HH3:=hid (show LdP 34 6 CV w l (.slice A5 m c5) x3.drew from by rw[←Hx3.out];exact (hQ.out.on ((Below.refl _ _).alloc (Nat.le_refl _) _)).drew)
        have HZL:=hid (show w.heap.size≤z9 from by have:=hQ.out.hb.size;have h2:wr.heap.size=z9:=Hz9.out;omega)
        have HZO:=hid (show ∀b,(Value.slice A5 m c5).ownBlock=some b→b<z9 from λb hb=>by have:=hQ.out.own.lt hb;have h2:wr.heap.size=z9:=Hz9.out;omega)
        unfold wpAt
        go_simp
        rw[Hx3.out,Hz9.out]
        refine hK.out _ _ HH3.out (λhHeld=>?_)
        clear hK K
        try simp only[Act.put,aT,aZ,aS]
        refine tkC 13 (λK hK=>?_)
        change Oper.wp _ ⟨some 66,_,_,_,_,_⟩ _ _ _ _
        go_simp
        refine (partR_any HCT.out p HP3.out _).mono ?_
        unfold PartRIs
        rintro e x1 ⟨u1,rfl,hcu,hb⟩
        rw[Hv.out]at hcu
        have HCU:=hid hcu
        have HH1:=hid (hHeld.on hb)
        have SU:=hid (show u1.size=(#[.int .i64 0,.bool false,.int .i64 0,.string ⟨#[]⟩,.string ⟨#[]⟩,.slice none 0 0]:Array Value).size from by rw[CellV.size hcu];rfl)
        have IU:=hid (infoV6.trans (congrArg some (CellV.size hcu).symm))
        have OU:=hid (show u1.all (·.oneCell')=true from by obtain⟨_,A,cp,rfl⟩:=hcu;kernel_rfl)
        have HA4:=hid ((hb.block z9 (blk_lt HA3.out)).trans HA3.out)
        clear hcu hb
        dsimp only
        refine hK.out _ _ HH1.out (λhHeld=>?_)
        clear hK K
        try simp only[Act.put,aT,aZ,aS]
        refine tkC 15 (λK hK=>?_)
        change Oper.wp _ ⟨none,_,_,_,_,_⟩ _ _ _ _
        refine st_rowW 34 _ _ rfl z9 (#[.int .i64 0,.bool false,.int .i64 0,.string ⟨#[]⟩,.string ⟨#[]⟩,.slice none 0 0]) u1 34 rfl rfl HA4.out SU.out IU.out OU.out ?_
        intro y9 hw9 ht9
        have HH9:=hid (show LdP 34 6 CV w l (.slice A5 m c5) y9 from ⟨below_turn hHeld.hb ht9 (λb hb=>by have hb:b=z9:=hb;have:=HZL.out;omega),hHeld.own.turn ht9 (λb hb e=>by have e:b=z9:=e;have:=HZO.out b hb;omega),hHeld.ow⟩)
        have HW9:=hid hw9
        clear hw9 ht9
        refine hK.out _ _ HH9.out (λhHeld=>?_)
        clear hK K
        try simp only[Act.put,aT,aZ,aS]
        refine⟨wpAnyH_done (by kernel_rfl) ?_ _⟩
        clear hHeld
        go_wp2_with fail
        go_meet
        exact⟨z9,u1,rfl,HH9.out,HW9.out,HCU.out⟩
      case rest=>
       rename World=>wB
       obtain⟨z9,u,rfl,hld,hbx,hcu⟩:=hcut
       have HN2:=hid hld
       have HBX:=hid hbx
       have HCU:=hid hcu
       have IU:=hid (infoV6.trans (congrArg some (CellV.size hcu).symm))
       have ZU:=hid (CellV.size hcu)
       clear hld hbx hcu hQ
       go_wp2_with fail
       go_loopw [10] (λs10 wx=>∃k:Nat,k≤m∧s10 = .int .i64 (k:Nat)∧Hid (LdP 34 6 CV w l (.slice A5 m c5) wx∧wx.heap[z9]?=some (.cells u 34 (0,0))∧spotR ordV v l m=spotR ordV v l k)) (λs10 _=>(intOf s10).toNat)
       case atStart=>exact⟨m,by omega,rfl,hid ⟨HN2.out,HBX.out,rfl⟩⟩
       case round=>
        obtain⟨k2,hk2,rfl,hQ⟩:=hrel
        clear HN2 HBX
        by_cases hk0:k2=0
        ·have HM:=hid hQ.out.1
         have HBX:=hid hQ.out.2.1
         have HINS:=hid (show insR ordV l v=l.take k2++([v]++l.drop k2) from by
          rw[hk0]
          exact ins_none (by rw[Hm.out,hQ.out.2.2,hk0];exact spot_zero))
         have HK:=hid hk2
         have g0:¬(0:Int)<k2:=by omega
         have g1:¬0<k2:=by omega
         clear hQ hk0
         go_upto_region 13 with fail
         refine wp_region_held_drew (S:=λW'=>LdP 34 6 CV w l (.slice A5 m c5) W'∧W'.heap[z9]?=some (.cells u 34 (0,0))) (by kernel_rfl) ⟨HM.out.drew,HBX.out⟩ (λhHeld=>?_)
         refine Boxed.out ?_
         refine tkW 0 69 (.int .i64 (k2:Nat)) hHeld (λw hSw=>?_) (λhHeld=>?_)
         ·unfold runsTo
          go_simp
         try simp only[Act.put,aT,aZ,aS]
         refine tkW 1 70 (.bool false) hHeld (λw hSw=>?_) (λhHeld=>?_)
         ·unfold runsTo
          go_simp
         try simp only[Act.put,aT,aZ,aS]
         refine tkW 2 71 (.bool false) hHeld (λw hSw=>?_) (λhHeld=>?_)
         ·unfold runsTo
          go_simp
         try simp only[Act.put,aT,aZ,aS]
         refine take_skip 3 72 (by kernel_rfl) (by rfl) (by kernel_rfl) (by kernel_rfl) (by kernel_rfl) (λ_ _ _ h=>h) hHeld (λhHeld=>?_)
         try simp only[Act.put,aT,aZ,aS]
         refine take_skip 4 73 (by kernel_rfl) (by rfl) (by kernel_rfl) (by kernel_rfl) (by kernel_rfl) (λ_ _ _ h=>h) hHeld (λhHeld=>?_)
         try simp only[Act.put,aT,aZ,aS]
         refine take_skip 5 74 (by kernel_rfl) (by rfl) (by kernel_rfl) (by kernel_rfl) (by kernel_rfl) (λ_ _ _ h=>h) hHeld (λhHeld=>?_)
         try simp only[Act.put,aT,aZ,aS]
         refine take_skip 6 75 (by kernel_rfl) (by rfl) (by kernel_rfl) (by kernel_rfl) (by kernel_rfl) (λ_ _ _ h=>h) hHeld (λhHeld=>?_)
         try simp only[Act.put,aT,aZ,aS]
         refine take_skip 7 76 (by kernel_rfl) (by rfl) (by kernel_rfl) (by kernel_rfl) (by kernel_rfl) (λ_ _ _ h=>h) hHeld (λhHeld=>?_)
         try simp only[Act.put,aT,aZ,aS]
         refine take_skip 8 77 (by kernel_rfl) (by rfl) (by kernel_rfl) (by kernel_rfl) (by kernel_rfl) (λ_ _ _ h=>h) hHeld (λhHeld=>?_)
         try simp only[Act.put,aT,aZ,aS]
         refine take_skip 9 78 (by kernel_rfl) (by rfl) (by kernel_rfl) (by kernel_rfl) (by kernel_rfl) (λ_ _ _ h=>h) hHeld (λhHeld=>?_)
         try simp only[Act.put,aT,aZ,aS]
         refine take_skip 10 79 (by kernel_rfl) (by rfl) (by kernel_rfl) (by kernel_rfl) (by kernel_rfl) (λ_ _ _ h=>h) hHeld (λhHeld=>?_)
         try simp only[Act.put,aT,aZ,aS]
         refine tkW 11 80 (.bool false) hHeld (λw hSw=>?_) (λhHeld=>?_)
         ·unfold runsTo
          go_simp
         try simp only[Act.put,aT,aZ,aS]
         refine⟨wpAnyH_done (by kernel_rfl) ?_ _⟩
         go_upto_region 15 with fail
         refine wp_region_held_drew (S:=λW'=>LdP 34 6 CV w l (.slice A5 m c5) W'∧W'.heap[z9]?=some (.cells u 34 (0,0))) (by kernel_rfl) ⟨hHeld.1.drew,hHeld.2⟩ (λhHeld=>?_)
         refine Boxed.out ?_
         refine tkW 0 83 (.int .i64 (k2:Nat)) hHeld (λw hSw=>?_) (λhHeld=>?_)
         ·unfold runsTo
          go_simp
         try simp only[Act.put,aT,aZ,aS]
         refine tkW 1 84 (.bool false) hHeld (λw hSw=>?_) (λhHeld=>?_)
         ·unfold runsTo
          go_simp
         try simp only[Act.put,aT,aZ,aS]
         refine tkW 2 85 (.bool false) hHeld (λw hSw=>?_) (λhHeld=>?_)
         ·unfold runsTo
          go_simp
         try simp only[Act.put,aT,aZ,aS]
         refine take_skip 3 86 (by kernel_rfl) (by rfl) (by kernel_rfl) (by kernel_rfl) (by kernel_rfl) (λ_ _ _ h=>h) hHeld (λhHeld=>?_)
         try simp only[Act.put,aT,aZ,aS]
         refine take_skip 4 87 (by kernel_rfl) (by rfl) (by kernel_rfl) (by kernel_rfl) (by kernel_rfl) (λ_ _ _ h=>h) hHeld (λhHeld=>?_)
         try simp only[Act.put,aT,aZ,aS]
         refine take_skip 5 88 (by kernel_rfl) (by rfl) (by kernel_rfl) (by kernel_rfl) (by kernel_rfl) (λ_ _ _ h=>h) hHeld (λhHeld=>?_)
         try simp only[Act.put,aT,aZ,aS]
         refine take_skip 6 89 (by kernel_rfl) (by rfl) (by kernel_rfl) (by kernel_rfl) (by kernel_rfl) (λ_ _ _ h=>h) hHeld (λhHeld=>?_)
         try simp only[Act.put,aT,aZ,aS]
         refine take_skip 7 90 (by kernel_rfl) (by rfl) (by kernel_rfl) (by kernel_rfl) (by kernel_rfl) (λ_ _ _ h=>h) hHeld (λhHeld=>?_)
         try simp only[Act.put,aT,aZ,aS]
         refine take_skip 8 91 (by kernel_rfl) (by rfl) (by kernel_rfl) (by kernel_rfl) (by kernel_rfl) (λ_ _ _ h=>h) hHeld (λhHeld=>?_)
         try simp only[Act.put,aT,aZ,aS]
         refine take_skip 9 92 (by kernel_rfl) (by rfl) (by kernel_rfl) (by kernel_rfl) (by kernel_rfl) (λ_ _ _ h=>h) hHeld (λhHeld=>?_)
         try simp only[Act.put,aT,aZ,aS]
         refine take_skip 10 93 (by kernel_rfl) (by rfl) (by kernel_rfl) (by kernel_rfl) (by kernel_rfl) (λ_ _ _ h=>h) hHeld (λhHeld=>?_)
         try simp only[Act.put,aT,aZ,aS]
         refine tkW 11 94 (.bool false) hHeld (λw hSw=>?_) (λhHeld=>?_)
         ·unfold runsTo
          go_simp
         try simp only[Act.put,aT,aZ,aS]
         refine⟨wpAnyH_done (by kernel_rfl) ?_ _⟩
         have HM2:=hid hHeld.1
         have HBX2:=hid hHeld.2
         clear hHeld HM HBX
         have w1:IntKind.i64.wrap ((i:Int)+1)=(i:Int)+1:=HW1.out
         go_upto_region 17 with fail
         obtain⟨A1',c1',hs1,hn1,ha1⟩:=slice_to (k:=k2) und_val sizeOf_val (A:=A5) (n:=m) (c:=c5) HK.out HMC.out HNIL.out
         obtain⟨A3',c3',hs3,hn3,ha3⟩:=slice_from (k:=k2) und_val sizeOf_val (A:=A5) (n:=m) (c:=c5) HK.out HMC.out HNIL.out
         have HSL1:=hid hs1
         have HSL3:=hid hs3
         have HNL1:=hid hn1
         have HNL3:=hid hn3
         have HAA1:=hid ha1
         have HAA3:=hid ha3
         clear hs1 hs3 hn1 hn3 ha1 ha3
         have HI0:=hid (InP.start HM2.out)
         have HSR1:=hid ((HI0.out.l.own.rd cellV_plain (F:=λb=>(Value.slice A5 m c5).ownBlock=some b) (λ_ h=>h) Hm.out).part_to HK.out HAA1.out)
         go_upto_region 18 with (first
          | ((with_reducible refine at_dst (some 98) ?_);refine val_arm rfl (.slice A1' k2 c1') (val_of (HSL1.out _)) ?_)
          | ((with_reducible refine at_dst (some 99) ?_);refine wpList_app_P cellV_plain rfl (.tmp 95) (.tmp 98) 32 rfl i0 _ Tryz.underlying32 HIF.out HIZ.out HIS.out HIB.out rfl (by decide) rfl HI0.out.n.own rfl rfl HSR1.out HNL1.out (by have:=HM65.out;have:=HK.out;simp;omega) (by decide) ?_;intro v1 y1 ho1 hg1 hv1))
         have HI1:=hid (HI0.out.app ho1 hg1 hv1)
         have HBX3:=hid ((Turn.of_grown hg1).heap HBX2.out (λe=>by cases e))
         clear ho1 hg1 hv1
         have HI2:=hid (HI1.out.on ((Below.refl _ _).alloc (Nat.le_refl _) (.cells u 34)))
         have HY2:=hid (one_rd cellV_plain HCU.out y1 34)
         go_upto_region 19 with (first
          | ((with_reducible refine at_dst (some 101) ?_);refine ld_armG (by rfl) 34 _ rfl rfl u _ (row_at HBX3.out) Tryz.underlying34 rfl IU.out ?_)
          | ((with_reducible refine at_dst (some 102) ?_);refine bs_arm rfl 32 1 _ rfl #[(0,.agg u)] (by kernel_rfl) (.slice (some ⟨y1.heap.size,0,none⟩) 1 1) _ (bsv_run u ZU.out y1) ?_)
          | ((with_reducible refine at_dst (some 103) ?_);refine wpList_app_P cellV_plain rfl (.tmp 100) (.tmp 102) 32 rfl i0 _ Tryz.underlying32 HIF.out HIZ.out HIS.out HIB.out rfl (by decide) rfl HI2.out.n.own rfl rfl HY2.out (λh=>by cases h) (by have:=HM65.out;have:=HK.out;simp;omega) (by decide) ?_;intro v2 y2 ho2 hg2 hv2))
         have HI3:=hid (HI2.out.app ho2 hg2 hv2)
         clear ho2 hg2 hv2 HI2 HI1 HI0 HSR1
         have HSR3:=hid ((HI3.out.l.own.rd cellV_plain (F:=λb=>(Value.slice A5 m c5).ownBlock=some b) (λ_ h=>h) Hm.out).part_from HK.out HAA3.out)
         go_wp2_with (first
          | ((with_reducible refine at_dst (some 107) ?_);refine val_arm rfl (.slice A3' (m-k2) c3') (val_of (HSL3.out _)) ?_)
          | ((with_reducible refine at_dst (some 108) ?_);refine wpList_app_P cellV_plain rfl (.tmp 104) (.tmp 107) 32 rfl i0 _ Tryz.underlying32 HIF.out HIZ.out HIS.out HIB.out rfl (by decide) rfl HI3.out.n.own rfl rfl HSR3.out HNL3.out (by have:=HM65.out;have:=HK.out;simp;omega) (by decide) ?_;intro v3 y3 ho3 hg3 hv3))
         have HI4:=hid (HI3.out.app ho3 hg3 hv3)
         clear ho3 hg3 hv3 HI3 HSR3
         go_wp2_with fail
         go_roundw
         case rel=>exact⟨i+1,_,by have:=HLT.out;omega,by go_num,rfl,hid (by
          have h:=HI4.out.done
          rw[List.nil_append,List.append_assoc]at h
          rw[HSNOC.out,HINS.out]
          exact h)⟩
         case measure=>have:=HLT.out;simp[intOf];omega
        ·obtain⟨k',hk'⟩:∃k',k2=k'+1:=⟨k2-1,by omega⟩
         have g0:(0:Int)<k2:=by omega
         have g1:0<k2:=by omega
         have HWK:=hid (show IntKind.i64.wrap ((k2:Int)-1)=(k':Int) from by rw[IntWalk.i64_in _ (by have:=HM65.out;omega)];omega)
         have HKK:=hid hk'
         have HK:=hid hk2
         have HKL:=hid (show k'<m from by omega)
         obtain⟨x,hx⟩:∃x,l[k']?=some x:=⟨_,List.getElem?_eq_getElem (by rw[Hm.out];omega)⟩
         obtain⟨ad5,cx,rfl,hlt5,hcx,hqx⟩:=hQ.out.1.own.cell cellV_plain Hm.out hx
         have HX:=hid hx
         have HLT5:=hid hlt5
         have IX:=hid (infoV6.trans (congrArg some (CellV.size hcx).symm))
         have HQX:=hid (λ(V:World) (hb:Below wr.heap.size wr V) (y:Nat) (hy:y<cx.size)=>(hb.cell (p:=(ad5.add (k'*6)).add y) (by rw[add_blk,add_blk];exact hlt5)).trans (hqx y hy))
         have hcmp:=λV=>ordCV_any (a:=x) (b:=v) hcx HCU.out V
         unfold OrdIs at hcmp
         obtain⟨om,Hom⟩:=name_itV (ordV x v)
         rw[Hom.out]at hcmp
         have HCMP:=hid hcmp
         have HM:=hid hQ.out.1
         have HBX:=hid hQ.out.2.1
         have HSP:=hid hQ.out.2.2
         clear hx hlt5 hcx hqx hcmp hQ hk'
         go_upto_region 13 with fail
         refine wp_region_held_drew (S:=λW'=>LdP 34 6 CV w l (.slice (some ad5) m c5) W'∧(∀y,y<cx.size→W'.cell? ((ad5.add (k'*6)).add y)=cx[y]?)∧W'.heap[z9]?=some (.cells u 34 (0,0))) (by kernel_rfl) ⟨HM.out.drew,HQX.out _ (Below.refl _ _).drew,HBX.out⟩ (λhHeld=>?_)
         refine Boxed.out ?_
         refine tkW 0 69 (.int .i64 (k2:Nat)) hHeld (λw hSw=>?_) (λhHeld=>?_)
         ·unfold runsTo
          go_simp
         try simp only[Act.put,aT,aZ,aS]
         refine tkW 1 70 (.bool true) hHeld (λw hSw=>?_) (λhHeld=>?_)
         ·unfold runsTo
          go_simp
         try simp only[Act.put,aT,aZ,aS]
         refine tkW 2 71 (.bool true) hHeld (λw hSw=>?_) (λhHeld=>?_)
         ·unfold runsTo
          go_simp
         try simp only[Act.put,aT,aZ,aS]
         refine tkW 3 72 (.slice (some ad5) m c5) hHeld (λw hSw=>?_) (λhHeld=>?_)
         ·unfold runsTo
          go_simp
         try simp only[Act.put,aT,aZ,aS]
         refine tkW 4 73 (.int .i64 (k2:Nat)) hHeld (λw hSw=>?_) (λhHeld=>?_)
         ·unfold runsTo
          go_simp
         try simp only[Act.put,aT,aZ,aS]
         refine tkW 5 74 (.int .i64 (k':Nat)) hHeld (λw hSw=>?_) (λhHeld=>?_)
         ·have p:=HWK.out
          unfold runsTo
          go_simp
         try simp only[Act.put,aT,aZ,aS]
         refine tkW 6 75 (.pointer (some (ad5.add (k'*6)))) hHeld (λw hSw=>?_) (λhHeld=>?_)
         ·exact val_of (idx_val ad5 m c5 k' HKL.out w)
         try simp only[Act.put,aT,aZ,aS]
         refine tkW 7 76 (.agg cx) hHeld (λw hSw=>?_) (λhHeld=>?_)
         ·have p:=run_loadVar_at w (ad5.add (k'*6)) 34 cx _ hSw.2.1 Tryz.underlying34 rfl IX.out
          exact val_of (by simp only[Instr.loadAt,Instr.sureAddr,Sem.run_bind];exact p)
         try simp only[Act.put,aT,aZ,aS]
         refine tkW 8 77 (.agg u) hHeld (λw hSw=>?_) (λhHeld=>?_)
         ·exact val_of (ld_run hSw.2.2 34 _ Tryz.underlying34 rfl IU.out)
         try simp only[Act.put,aT,aZ,aS]
         refine tkC 9 (λK hK=>?_)
         change Oper.wp _ ⟨some 78,_,_,_,_,_⟩ _ _ _ _
         go_simp
         refine (HCMP.out _).mono ?_
         rintro e x1 ⟨rfl,hb⟩
         have HSZ0:=hid (show wr.heap.size≤x1.heap.size from hb.size)
         have HHX:=hid (show LdP 34 6 CV w l (.slice (some ad5) m c5) x1∧(∀y,y<cx.size→x1.cell? ((ad5.add (k'*6)).add y)=cx[y]?)∧x1.heap[z9]?=some (.cells u 34 (0,0)) from ⟨hHeld.1.on hb,λy hy=>by
          have hlt5:ad5.block<wr.drew.heap.size:=HLT5.out
          exact (hb.cell (p:=(ad5.add (k'*6)).add y) (by rw[add_blk,add_blk];exact hlt5)).trans (hHeld.2.1 y hy),(hb.block z9 (blk_lt hHeld.2.2)).trans hHeld.2.2⟩)
         clear hb
         dsimp only
         refine hK.out _ _ HHX.out (λhHeld=>?_)
         clear hK K
         try simp only[Act.put,aT,aZ,aS]
         by_cases hom:0<om
         ·have hom':(0:Int)<om:=hom
          refine tkW 10 79 (.bool true) hHeld (λw hSw=>?_) (λhHeld=>?_)
          ·unfold runsTo
           go_simp
          try simp only[Act.put,aT,aZ,aS]
          refine tkW 11 80 (.bool true) hHeld (λw hSw=>?_) (λhHeld=>?_)
          ·unfold runsTo
           go_simp
          try simp only[Act.put,aT,aZ,aS]
          refine⟨wpAnyH_done (by kernel_rfl) ?_ _⟩
          have HMX:=hid hHeld.1
          have HBX2:=hid hHeld.2.2
          clear hHeld
          have wk:wrap64 ((k2:Int)-1)=(k':Int):=(IntWalk.wrap64_in _ (by have h2:k2=k'+1:=HKK.out;have:=HM65.out;have:=HK.out;omega)).trans (by have h2:k2=k'+1:=HKK.out;omega)
          go_wp2_with fail
          go_roundw
          case rel=>exact⟨k',by have:=HKL.out;omega,by go_num,hid ⟨HMX.out,HBX2.out,by have h1:=HSP.out;have h2:k2=k'+1:=HKK.out;rw[h1,h2];exact spot_down HX.out (by rw[Hom.out];exact hom)⟩⟩
          case measure=>have h2:k2=k'+1:=HKK.out;simp[intOf];omega
         ·have hom':¬(0:Int)<om:=hom
          refine tkW 10 79 (.bool false) hHeld (λw hSw=>?_) (λhHeld=>?_)
          ·unfold runsTo
           go_simp
          try simp only[Act.put,aT,aZ,aS]
          refine tkW 11 80 (.bool false) hHeld (λw hSw=>?_) (λhHeld=>?_)
          ·unfold runsTo
           go_simp
          try simp only[Act.put,aT,aZ,aS]
          refine⟨wpAnyH_done (by kernel_rfl) ?_ _⟩
          have HSPK:=hid (show spotR ordV v l l.length=k'+1 from by have h1:=HSP.out;have h2:k2=k'+1:=HKK.out;rw[Hm.out,h1,h2];exact spot_here HX.out (by rw[Hom.out];exact hom))
          have HMX:=hid hHeld.1
          have HSZ1:=hid (show wr.heap.size≤x1.drew.heap.size from HSZ0.out)
          have HQX2:=hid hHeld.2
          clear hHeld
          go_upto_region 15 with fail
          refine wp_region_held_drew (S:=λW'=>LdP 34 6 CV w l (.slice (some ad5) m c5) W'∧(∀y,y<cx.size→W'.cell? ((ad5.add (k'*6)).add y)=cx[y]?)∧W'.heap[z9]?=some (.cells u 34 (0,0))) (by kernel_rfl) ⟨HMX.out.drew,HQX2.out.1,HQX2.out.2⟩ (λhHeld=>?_)
          refine Boxed.out ?_
          refine tkW 0 83 (.int .i64 (k2:Nat)) hHeld (λw hSw=>?_) (λhHeld=>?_)
          ·unfold runsTo
           go_simp
          try simp only[Act.put,aT,aZ,aS]
          refine tkW 1 84 (.bool true) hHeld (λw hSw=>?_) (λhHeld=>?_)
          ·unfold runsTo
           go_simp
          try simp only[Act.put,aT,aZ,aS]
          refine tkW 2 85 (.bool true) hHeld (λw hSw=>?_) (λhHeld=>?_)
          ·unfold runsTo
           go_simp
          try simp only[Act.put,aT,aZ,aS]
          refine tkW 3 86 (.slice (some ad5) m c5) hHeld (λw hSw=>?_) (λhHeld=>?_)
          ·unfold runsTo
           go_simp
          try simp only[Act.put,aT,aZ,aS]
          refine tkW 4 87 (.int .i64 (k2:Nat)) hHeld (λw hSw=>?_) (λhHeld=>?_)
          ·unfold runsTo
           go_simp
          try simp only[Act.put,aT,aZ,aS]
          refine tkW 5 88 (.int .i64 (k':Nat)) hHeld (λw hSw=>?_) (λhHeld=>?_)
          ·have p:=HWK.out
           unfold runsTo
           go_simp
          try simp only[Act.put,aT,aZ,aS]
          refine tkW 6 89 (.pointer (some (ad5.add (k'*6)))) hHeld (λw hSw=>?_) (λhHeld=>?_)
          ·exact val_of (idx_val ad5 m c5 k' HKL.out w)
          try simp only[Act.put,aT,aZ,aS]
          refine tkW 7 90 (.agg cx) hHeld (λw hSw=>?_) (λhHeld=>?_)
          ·have p:=run_loadVar_at w (ad5.add (k'*6)) 34 cx _ hSw.2.1 Tryz.underlying34 rfl IX.out
           exact val_of (by simp only[Instr.loadAt,Instr.sureAddr,Sem.run_bind];exact p)
          try simp only[Act.put,aT,aZ,aS]
          refine tkW 8 91 (.agg u) hHeld (λw hSw=>?_) (λhHeld=>?_)
          ·exact val_of (ld_run hSw.2.2 34 _ Tryz.underlying34 rfl IU.out)
          try simp only[Act.put,aT,aZ,aS]
          refine tkC 9 (λK hK=>?_)
          change Oper.wp _ ⟨some 92,_,_,_,_,_⟩ _ _ _ _
          go_simp
          refine (HCMP.out _).mono ?_
          rintro e x2 ⟨rfl,hb⟩
          have HSZ0:=hid (show wr.heap.size≤x2.heap.size from Nat.le_trans HSZ1.out hb.size)
          have HHX:=hid (show LdP 34 6 CV w l (.slice (some ad5) m c5) x2∧(∀y,y<cx.size→x2.cell? ((ad5.add (k'*6)).add y)=cx[y]?)∧x2.heap[z9]?=some (.cells u 34 (0,0)) from ⟨hHeld.1.on hb,λy hy=>by
           have hlt5:ad5.block<x1.drew.heap.size:=Nat.lt_of_lt_of_le HLT5.out HSZ1.out
           exact (hb.cell (p:=(ad5.add (k'*6)).add y) (by rw[add_blk,add_blk];exact hlt5)).trans (hHeld.2.1 y hy),(hb.block z9 (blk_lt hHeld.2.2)).trans hHeld.2.2⟩)
          clear hb
          dsimp only
          refine hK.out _ _ HHX.out (λhHeld=>?_)
          clear hK K
          try simp only[Act.put,aT,aZ,aS]
          by_cases hom0:om=0
          ·subst hom0
           refine tkW 10 93 (.bool true) hHeld (λw hSw=>?_) (λhHeld=>?_)
           ·unfold runsTo
            go_simp
           try simp only[Act.put,aT,aZ,aS]
           refine tkW 11 94 (.bool true) hHeld (λw hSw=>?_) (λhHeld=>?_)
           ·unfold runsTo
            go_simp
           try simp only[Act.put,aT,aZ,aS]
           refine⟨wpAnyH_done (by kernel_rfl) ?_ _⟩
           have HM2:=hid hHeld.1
           clear hHeld
           have w1:IntKind.i64.wrap ((i:Int)+1)=(i:Int)+1:=HW1.out
           go_wp2_with fail
           go_roundw
           case rel=>exact⟨i+1,_,by have:=HLT.out;omega,by go_num,rfl,hid (by rw[HSNOC.out,ins_same HX.out HSPK.out Hom.out];exact HM2.out)⟩
           case measure=>have:=HLT.out;simp[intOf];omega
          ·have hom1:¬om=0:=hom0
           have HINS:=hid (show insR ordV l v=l.take k2++([v]++l.drop k2) from by have h2:k2=k'+1:=HKK.out;rw[h2];exact ins_here HX.out HSPK.out (by rw[Hom.out];exact hom0))
           refine tkW 10 93 (.bool false) hHeld (λw hSw=>?_) (λhHeld=>?_)
           ·unfold runsTo
            go_simp
           try simp only[Act.put,aT,aZ,aS]
           refine tkW 11 94 (.bool false) hHeld (λw hSw=>?_) (λhHeld=>?_)
           ·unfold runsTo
            go_simp
           try simp only[Act.put,aT,aZ,aS]
           refine⟨wpAnyH_done (by kernel_rfl) ?_ _⟩
           have HM2:=hid hHeld.1
           have HBX2:=hid hHeld.2.2
           clear hHeld
           have w1:IntKind.i64.wrap ((i:Int)+1)=(i:Int)+1:=HW1.out
           go_upto_region 17 with fail
           obtain⟨A1',c1',hs1,hn1,ha1⟩:=slice_to (k:=k2) und_val sizeOf_val (A:=(some ad5)) (n:=m) (c:=c5) HK.out HMC.out HNIL.out
           obtain⟨A3',c3',hs3,hn3,ha3⟩:=slice_from (k:=k2) und_val sizeOf_val (A:=(some ad5)) (n:=m) (c:=c5) HK.out HMC.out HNIL.out
           have HSL1:=hid hs1
           have HSL3:=hid hs3
           have HNL1:=hid hn1
           have HNL3:=hid hn3
           have HAA1:=hid ha1
           have HAA3:=hid ha3
           clear hs1 hs3 hn1 hn3 ha1 ha3
           have HI0:=hid (InP.start HM2.out)
           have HSR1:=hid ((HI0.out.l.own.rd cellV_plain (F:=λb=>(Value.slice (some ad5) m c5).ownBlock=some b) (λ_ h=>h) Hm.out).part_to HK.out HAA1.out)
           go_upto_region 18 with (first
            | ((with_reducible refine at_dst (some 98) ?_);refine val_arm rfl (.slice A1' k2 c1') (val_of (HSL1.out _)) ?_)
            | ((with_reducible refine at_dst (some 99) ?_);refine wpList_app_P cellV_plain rfl (.tmp 95) (.tmp 98) 32 rfl i0 _ Tryz.underlying32 HIF.out HIZ.out HIS.out HIB.out rfl (by decide) rfl HI0.out.n.own rfl rfl HSR1.out HNL1.out (by have:=HM65.out;have:=HK.out;simp;omega) (by decide) ?_;intro v1 y1 ho1 hg1 hv1))
           have HI1:=hid (HI0.out.app ho1 hg1 hv1)
           have HBX3:=hid ((Turn.of_grown hg1).heap HBX2.out (λe=>by cases e))
           clear ho1 hg1 hv1
           have HI2:=hid (HI1.out.on ((Below.refl _ _).alloc (Nat.le_refl _) (.cells u 34)))
           have HY2:=hid (one_rd cellV_plain HCU.out y1 34)
           go_upto_region 19 with (first
            | ((with_reducible refine at_dst (some 101) ?_);refine ld_armG (by rfl) 34 _ rfl rfl u _ (row_at HBX3.out) Tryz.underlying34 rfl IU.out ?_)
            | ((with_reducible refine at_dst (some 102) ?_);refine bs_arm rfl 32 1 _ rfl #[(0,.agg u)] (by kernel_rfl) (.slice (some ⟨y1.heap.size,0,none⟩) 1 1) _ (bsv_run u ZU.out y1) ?_)
            | ((with_reducible refine at_dst (some 103) ?_);refine wpList_app_P cellV_plain rfl (.tmp 100) (.tmp 102) 32 rfl i0 _ Tryz.underlying32 HIF.out HIZ.out HIS.out HIB.out rfl (by decide) rfl HI2.out.n.own rfl rfl HY2.out (λh=>by cases h) (by have:=HM65.out;have:=HK.out;simp;omega) (by decide) ?_;intro v2 y2 ho2 hg2 hv2))
           have HI3:=hid (HI2.out.app ho2 hg2 hv2)
           clear ho2 hg2 hv2 HI2 HI1 HI0 HSR1
           have HSR3:=hid ((HI3.out.l.own.rd cellV_plain (F:=λb=>(Value.slice (some ad5) m c5).ownBlock=some b) (λ_ h=>h) Hm.out).part_from HK.out HAA3.out)
           go_wp2_with (first
            | ((with_reducible refine at_dst (some 107) ?_);refine val_arm rfl (.slice A3' (m-k2) c3') (val_of (HSL3.out _)) ?_)
            | ((with_reducible refine at_dst (some 108) ?_);refine wpList_app_P cellV_plain rfl (.tmp 104) (.tmp 107) 32 rfl i0 _ Tryz.underlying32 HIF.out HIZ.out HIS.out HIB.out rfl (by decide) rfl HI3.out.n.own rfl rfl HSR3.out HNL3.out (by have:=HM65.out;have:=HK.out;simp;omega) (by decide) ?_;intro v3 y3 ho3 hg3 hv3))
           have HI4:=hid (HI3.out.app ho3 hg3 hv3)
           clear ho3 hg3 hv3 HI3 HSR3
           go_wp2_with fail
           go_roundw
           case rel=>exact⟨i+1,_,by have:=HLT.out;omega,by go_num,rfl,hid (by
            have h:=HI4.out.done
            rw[List.nil_append,List.append_assoc]at h
            rw[HSNOC.out,HINS.out]
            exact h)⟩
           case measure=>have:=HLT.out;simp[intOf];omega
  ·have a2:¬(i:Int)<nT:=by omega
   have HE:=hid (show KeysIs (keysA T (wayN j) pre) w (.returned S) wr from ⟨S,rfl,by have h:=hM.out;rwa [keysK_all (by rw[HNT.out];omega)]at h⟩)
   go_wp2_with fail
   go_ret
   exact HE.out
end Go.Proofs.YtijciakkfpjjbaaGreatDoor
