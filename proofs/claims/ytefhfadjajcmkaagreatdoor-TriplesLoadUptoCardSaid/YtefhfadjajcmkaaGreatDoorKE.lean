/- A cursor in memory; what stands at a place: printed by gen_XL.py. -/
import Derived.Test.YtefhfadjajcmkaaGreatDoorKD
set_option linter.unusedVariables false
set_option linter.unusedSimpArgs false
set_option maxRecDepth 100000
set_option maxHeartbeats 8000000
namespace Go.Proofs.YtefhfadjajcmkaaGreatDoor
open Go Go.RowKit Go.Maps
open Go.Lib (hid cell_of_heap)
theorem bs_list (a0 a1 a2 a3 a4 a5 a6 a7 a8 a9 a10 a11 a12 a13 a14 a15 a16 a17:Value) (w:World):(Instr.buildSlice 93 1 #[(0,.agg #[a0,a1,a2,a3,a4,a5,a6,a7,a8,a9,a10,a11,a12,a13,a14,a15,a16,a17])]).run Tryz.prog w = .ok (.slice (some ⟨w.heap.size,0,none⟩) 1 1) (w.alloc (.cells #[a0,a1,a2,a3,a4,a5,a6,a7,a8,a9,a10,a11,a12,a13,a14,a15,a16,a17] 99)):=by kernel_rfl
theorem bs_run (c:Array Value) (hc:c.size=18) (w:World):(Instr.buildSlice 93 1 #[(0,.agg c)]).run Tryz.prog w = .ok (.slice (some ⟨w.heap.size,0,none⟩) 1 1) (w.alloc (.cells c 99)):=by
 obtain⟨l⟩:=c
 match l,hc with
 | [a0,a1,a2,a3,a4,a5,a6,a7,a8,a9,a10,a11,a12,a13,a14,a15,a16,a17],_=>exact bs_list a0 a1 a2 a3 a4 a5 a6 a7 a8 a9 a10 a11 a12 a13 a14 a15 a16 a17 w
theorem wp_bs {op:Oper} {a:Act} {K:Act→World→Prop} {Q:Exit→Act→World→Prop} {w:World} (x:Operand) (ho:op.op = .buildSlice 93 1 #[(0,x)]) {c:Array Value} (hx:a.eval x = .agg c) (hc:c.size=18) (h:K (a.put op.dst (.slice (some ⟨w.heap.size,0,none⟩) 1 1)) (w.alloc (.cells c 99))):op.wp Tryz.prog a w K Q:=by
 unfold Oper.wp execOp
 simp only[ho,List.map_toArray,List.map_cons,List.map_nil,hx,Sem.run_bind,Sem.run_pure,bs_run c hc w,Result.andThen_ok]
 exact h
theorem scal_list {v:Val} (h:ScalV v):v.list=[]:=by
 rcases scal_form h with⟨_,e⟩ | ⟨_,e⟩ | ⟨_,_,e⟩ | ⟨_,e⟩<;>(rw[e];rfl)
theorem trS_of {t:Trip} (h:mayT t=true) (hk:OkT t) {w:World} {F:Nat→Prop} {ss:Nat→Value} (hr:∀i,i<3→VRd w F (t.get i) (.agg (cellsV (t.get i) (ss i)))):(∀i,i<3→∃A cap,ss i = .slice A 0 cap)∧∀w F,TrS w F t (cellsT t ss):=by
 have hs:=mayT_scal h hk
 have hss:∀i,i<3→∃A cap,ss i = .slice A 0 cap:=λi hi=>by
  obtain⟨A,cap,e,_,_⟩:=(hr i hi).inv
  injection e with e
  have:=congrArg (λa:Array Value=>a[5]?) e
  rw[scal_list (hs.get i)]at this
  exact⟨A,cap,by simpa [cellsV] using this⟩
 exact⟨hss,λ_ _=>⟨hs,λn=>(hk.get n).fit,ss,hss,rfl⟩⟩
theorem ld_start {w w2:World} (hb:Below w.heap.size w w2):LdT w w2.heap.size (.slice none 0 0) [] ((w2.alloc (.cells #[.slice none 0 0,.slice none 0 0,.slice none 0 0,.slice none 0 0,.slice none 0 0,.slice none 0 0,.slice none 0 0] 97)).alloc (.cells #[.pointer (some ⟨w2.heap.size,0,none⟩)] 29)):=
 ⟨⟨hb.trans ((two_new w2 _ _).mono hb.size),hb.size,heap_alloc2_new w2 _ _,heap_alloc2_old w2 _ _⟩,SOwn.nil ..⟩
theorem build74 (W:World):(Instr.build 97 #[]).run Tryz.prog W = .ok (.agg #[.slice none 0 0,.slice none 0 0,.slice none 0 0,.slice none 0 0,.slice none 0 0,.slice none 0 0,.slice none 0 0]) W:=by kernel_rfl
theorem box_below {w w5:World} {o:Obj} (ht:Turn (λb=>b=w.heap.size) (w.alloc o) w5):Below w.heap.size w w5:=
 ((Below.refl _ _).alloc (Nat.le_refl _) o).trans ⟨ht.os,ht.tape,ht.output,ht.size,λk hk=>ht.block k (by simp;omega) (by omega)⟩
theorem tr_one {t:Trip} {ss:Nat→Value} (h:∀i,i<3→∃A cap,ss i = .slice A 0 cap):(cellsT t ss).all (·.oneCell')=true:=by
 rw[←Array.toArray_toList (xs:=cellsT t ss)]
 exact all_oneCell_toArray (cellsT_one t ss λq hq=>by obtain⟨A,cp,e⟩:=h q hq;exact⟨A,0,cp,e⟩)
theorem loadT_any (L:List Trip) (hok:∀t,t∈L→OkT t) (F:Nat→Prop) (A:Option Addr) (n cp:Nat) (w:World) (hF:∀g,F g→g<w.heap.size) (h:SRd 18 TrR w F L A n) (hn:n≤1000000000) (hgb:GlobB w) (hgt:GlobT w) :
    Calls Tryz.prog 12 #[.slice A n cp] w (LoadTIs L w):=by
 have H1:=hid (λ(W:World) (hb:Below w.heap.size w W)=>h.under TrR.good hb hF)
 have L1:=hid h.1
 have HOK:=hid hok
 have HG:=hid (And.intro hgb hgt)
 have hcf:=hid (containsF_any L hok F A n cp w hF h hn hgb)
 unfold ToldB at hcf
 clear h hok hF hgb hgt
 by_cases hbig:65536<n
 ·have e1:(65536:Int)<n:=by omega
  go_enter Tryz.func12,Tryz.ntmps12
  have HR:=hid (show ∀w',Below w.heap.size w w'→LoadTIs L w (.returned (.tuple #[.pointer none,.int .i64 20])) w' from λw' hb=>.inl ⟨λh2=>by have:=h2.1;have:=L1.out;omega,rfl,hb⟩)
  go_wp2_with fail
  go_ret2
  exact HR.out _ (Below.refl _ _)
 ·have e1:¬(65536:Int)<n:=by omega
  have HN:=hid (show n≤65536 from by omega)
  obtain⟨m,Hm⟩:=name_itV (L.all mayT)
  rw[Hm.out]at hcf
  go_enter Tryz.func12,Tryz.ntmps12
  go_wp2_with fail
  refine hcf.out.mono ?_
  rintro e w2 ⟨rfl,hb2⟩
  have HB2:=hid hb2
  clear hb2 hcf e1 hn hbig
  cases m with
  | false=>
   have HR:=hid (show LoadTIs L w (.returned (.tuple #[.pointer none,.int .i64 20])) w2 from .inl ⟨λh2=>(by rw[Hm.out]at h2;cases h2.2),rfl,HB2.out⟩)
   go_wp2_with fail
   go_ret2
   exact HR.out
  | true=>
   have HALL:=hid Hm.out
   have HMT:=hid (λt (ht:t∈L)=>List.all_eq_true.1 Hm.out t ht)
   obtain⟨z,Hz⟩:=name_itV w2.heap.size
   obtain⟨w3,HW3⟩:=name_itV ((w2.alloc (.cells #[.slice none 0 0,.slice none 0 0,.slice none 0 0,.slice none 0 0,.slice none 0 0,.slice none 0 0,.slice none 0 0] 97)).alloc (.cells #[.pointer (some ⟨w2.heap.size,0,none⟩)] 29))
   have hst:=ld_start HB2.out
   rw[HW3.out,Hz.out]at hst
   rw[Hz.out]at HW3
   have HST:=hid hst
   clear hst Hm
   go_upto_region 4 with ((with_reducible refine at_dst (some 23) ?_);refine build_arm rfl 97 #[] rfl #[] rfl (.agg #[.slice none 0 0,.slice none 0 0,.slice none 0 0,.slice none 0 0,.slice none 0 0,.slice none 0 0,.slice none 0 0]) (build74 _) ?_)
   rw[Hz.out,HW3.out]
   clear HW3 Hz
   go_wp2_with fail
   go_loopw [27] (λs wx=>∃(k:Nat) (S:Value),k≤n∧s = .int .i64 (k:Nat)∧Hid (LdT w z S (L.take k) wx)) (λs _=>n-(intOf s).toNat)
   case atStart=>exact⟨0,.slice none 0 0,by omega,rfl,HST.out⟩
   case round=>
    obtain⟨k,S,hk,rfl,hM⟩:=hrel
    by_cases hlt:k<n
    ·obtain⟨y,hy⟩:∃y,L[k]?=some y:=⟨_,List.getElem?_eq_getElem (by rw[←L1.out];exact hlt)⟩
     have HY:=hid hy
     obtain⟨ad,ss,rfl,_,hq,hr⟩:=TrR.cells (H1.out wr hM.out.m.hb) hy
     obtain⟨hss,htr⟩:=trS_of (HMT.out y (List.mem_of_getElem? hy)) (HOK.out y (List.mem_of_getElem? hy)) hr
     have HTR:=hid htr
     have hpo:=hid (λW:World=>partsOf_any y ss (λi hi=>by obtain⟨A,c,e⟩:=hss i hi;exact⟨A,0,c,e⟩) W)
     unfold PartsIs at hpo
     have hone:=tr_one (t:=y) hss
     clear hy hr htr hss
     obtain⟨c1,Hc1⟩:=name18 y ss
     rw[Hc1.out]at hpo hq hone HTR
     have HQ:=hid hq
     have HONE:=hid hone
     clear hq hone
     have Z1:=hid Hc1.size
     have Q1:=hid (infoTr.trans (congrArg some Hc1.size.symm))
     clear Hc1
     have e1:(0:Int)≤k:=by omega
     have e2:(k:Int)<n:=by omega
     have w1:IntKind.i64.wrap ((k:Int)+1)=(k:Int)+1:=IntWalk.i64_in _ (by have:=HN.out;omega)
     obtain⟨zy,Hzy⟩:=name_itV wr.heap.size
     have HBX:=hid (show (wr.alloc (.cells (#[.int .i64 0,.bool false,.int .i64 0,.string ⟨#[]⟩,.string ⟨#[]⟩,.slice none 0 0,.int .i64 0,.bool false,.int .i64 0,.string ⟨#[]⟩,.string ⟨#[]⟩,.slice none 0 0,.int .i64 0,.bool false,.int .i64 0,.string ⟨#[]⟩,.string ⟨#[]⟩,.slice none 0 0]) 41)).heap[zy]?=some (.cells (#[.int .i64 0,.bool false,.int .i64 0,.string ⟨#[]⟩,.string ⟨#[]⟩,.slice none 0 0,.int .i64 0,.bool false,.int .i64 0,.string ⟨#[]⟩,.string ⟨#[]⟩,.slice none 0 0,.int .i64 0,.bool false,.int .i64 0,.string ⟨#[]⟩,.string ⟨#[]⟩,.slice none 0 0]) 41 (0,0)) from by rw[←Hzy.out];exact heap_alloc_new wr _)
     go_upto_region 7 with (first
      | ((with_reducible refine at_dst (some 30) ?_);refine ld_armA rfl 41 _ rfl rfl c1 _ HQ.out Tryz.underlying41 rfl Q1.out ?_)
      | ((with_reducible refine at_st 6 ?_);refine st_row rfl 41 _ _ rfl zy (#[.int .i64 0,.bool false,.int .i64 0,.string ⟨#[]⟩,.string ⟨#[]⟩,.slice none 0 0,.int .i64 0,.bool false,.int .i64 0,.string ⟨#[]⟩,.string ⟨#[]⟩,.slice none 0 0,.int .i64 0,.bool false,.int .i64 0,.string ⟨#[]⟩,.string ⟨#[]⟩,.slice none 0 0]) c1 41 (by rw[←Hzy.out];rfl) rfl HBX.out Z1.out Q1.out HONE.out ?_;intro w5 hw5 ht5))
     rw[Hzy.out]
     have HB5:=hid (show Below wr.heap.size wr w5 from box_below (by rw[Hzy.out];exact ht5))
     have HW5:=hid hw5
     clear hw5 ht5 HQ HBX
     have HM5:=hid (hM.out.on HB5.out)
     have g0:w5.drew.cell? ⟨z,0,none⟩=some S:=HM5.out.m.drew.cellS
     have Q2:=hid (infoTr.trans (congrArg some Z1.out.symm))
     refine wp_region_held_drew (S:=λW'=>W'.cell? ⟨z+1,0,none⟩=some (.pointer (some ⟨z,0,none⟩))∧W'.heap[zy]?=some (.cells c1 41 (0,0))) (by kernel_rfl) ⟨HM5.out.m.drew.cellP,HW5.out⟩ (λhH=>?_)
     refine Boxed.out ?_
     refine tkW 0 31 (.pointer (some ⟨z,0,none⟩)) hH (λw hSw=>?_) (λhH=>?_)
     ·have p:=hSw.1
      unfold runsTo
      go_simp
     try simp only[Act.put,aT,aZ,aS]
     refine tkW 1 32 (.pointer (some ⟨z,0,none⟩)) hH (λw hSw=>?_) (λhH=>?_)
     ·have p:=hSw.1
      unfold runsTo
      go_simp
     try simp only[Act.put,aT,aZ,aS]
     refine tkV 2 33 (.pointer (some ⟨z,0,none⟩)) hH (λhH=>?_)
     try simp only[Act.put,aT,aZ,aS]
     refine tkV 3 34 (.pointer (some ⟨z,0,none⟩)) hH (λhH=>?_)
     try simp only[Act.put,aT,aZ,aS]
     refine tkW 5 36 (.agg c1) hH (λw hSw=>?_) (λhH=>?_)
     ·exact val_of (ld_run hSw.2 41 _ Tryz.underlying41 rfl Q2.out)
     try simp only[Act.put,aT,aZ,aS]
     refine take_two 4 6 (by kernel_rfl) (by rfl) (by rfl) (λK hK=>?_) (λK hK=>?_)
     ·skip
      unfold wpAt
      go_simp
      refine hK.out _ _ hH (λhH=>?_)
      clear hK K
      try simp only[Act.put,aT,aZ,aS]
      refine tkC 6 (λK hK=>?_)
      change Oper.wp _ ⟨some 37,_,_,_,_,_⟩ _ _ _ _
      go_simp
      refine (hpo.out w5.drew).mono ?_
      rintro e w6 ⟨rfl,hb6⟩
      have hH:w6.cell? ⟨z+1,0,none⟩=some (.pointer (some ⟨z,0,none⟩))∧w6.heap[zy]?=some (.cells c1 41 (0,0)):=⟨(HM5.out.drew.on hb6).m.cellP,(hb6.block zy (blk_lt HW5.out)).trans HW5.out⟩
      dsimp only
      refine hK.out _ _ hH (λhH=>?_)
      clear hK K
      try simp only[Act.put,aT,aZ,aS]
      have HM6:=hid (HM5.out.drew.on hb6)
      have HB6:=hid (show Below wr.heap.size wr w6 from HB5.out.trans ((below_of_dr hb6).mono HB5.out.size))
      have HH6:=hid hH
      have HA6:=hid (show (w6.alloc (.cells c1 99)).cell? ⟨z+1,0,none⟩=some (.pointer (some ⟨z,0,none⟩))∧(w6.alloc (.cells c1 99)).heap[zy]?=some (.cells c1 41 (0,0)) from ⟨(HM6.out.on ((Below.refl _ _).alloc (Nat.le_refl _) _)).m.cellP,(Below.heap_alloc _ _ _ (blk_lt HH6.out.2)).trans HH6.out.2⟩)
      clear hb6
      refine tkC 7 (λK hK=>?_)
      change Oper.wp _ ⟨some 38,_,_,_,_,_⟩ _ _ _ _
      refine wp_bs (.tmp 37) rfl rfl Z1.out ?_
      refine hK.out _ _ HA6.out (λhH=>?_)
      clear hK K
      try simp only[Act.put,aT,aZ,aS]
      refine tkC 8 (λK hK=>?_)
      change Oper.wp _ ⟨some 39,_,_,_,_,_⟩ _ _ _ _
      refine wp_app_T (.tmp 35) (.tmp 38) rfl rfl HM6.out.own (show (L.take k).length=k from by rw[List.length_take,←L1.out];omega) rfl HTR.out (by have:=HN.out;omega) (λb hb=>hb.2) (λg7 c7 w7 ho7 hg7 hl7 hw7=>?_)
      have HM7:=hid (HM6.out.m.turn (Turn.of_grown hg7) (λb hb=>(HM6.out.blk b hb.symm).1))
      have HZ7:=hid (show w7.heap[zy]?=some (.cells c1 41 (0,0)) from (Turn.of_grown hg7).heap HH6.out.2 (λe=>by obtain⟨cs,hrow,_⟩:=HM6.out.own;exact own_ne hrow HH6.out.2 (by decide) e.symm))
      have HF7:=hid (HM6.out.more hg7 hl7 hw7 ho7)
      clear ho7 hg7 hl7 hw7
      refine hK.out _ _ ⟨HM7.out.cellP,HZ7.out⟩ (λhH=>?_)
      clear hK K
      try simp only[Act.put,aT,aZ,aS]
      refine tkV 9 40 (.pointer (some ⟨z,0,none⟩)) hH (λhH=>?_)
      try simp only[Act.put,aT,aZ,aS]
      refine tkV 10 41 (.pointer (some ⟨z,0,none⟩)) hH (λhH=>?_)
      try simp only[Act.put,aT,aZ,aS]
      have f7:w7.frozen? ⟨z,0,none⟩=false:=Lib.frozen_of_heap HM7.out.pc 0
      have g7:w7.cell? ⟨z,0,none⟩=some S:=HM7.out.cellS
      refine tkC 11 (λK hK=>?_)
      unfold wpAt
      go_simp
      refine hK.out _ _ ⟨HF7.out.m.cellP,((Turn.refl (λb=>b=z) w7).setCell (p:=⟨z,0,none⟩) (.inr rfl) _).heap HZ7.out (λe=>by have h1:=HM5.out.m.c0;have h2:wr.heap.size=zy:=Hzy.out;have h3:=blk_lt hM.out.m.pc;omega)⟩ (λhH=>?_)
      clear hK K
      try simp only[Act.put,aT,aZ,aS]
      refine⟨wpAnyH_done (by kernel_rfl) ?_ _⟩
      clear hH
      go_wp2_with fail
      go_roundw
      case rel=>exact⟨k+1,_,by omega,by go_num,hid (by rw[take_oneMore HY.out];exact HF7.out)⟩
      case measure=>simp[intOf];omega
     ·skip
      change Oper.wp _ ⟨some 37,_,_,_,_,_⟩ _ _ _ _
      go_simp
      refine (hpo.out w5.drew).mono ?_
      rintro e w6 ⟨rfl,hb6⟩
      have HB6:=hid (show Below w5.heap.size w5 w6 from below_of_dr hb6)
      have g6:w6.cell? ⟨z,0,none⟩=some S:=(HM5.out.on HB6.out).m.cellS
      clear HB6
      have hH:w6.cell? ⟨z+1,0,none⟩=some (.pointer (some ⟨z,0,none⟩))∧w6.heap[zy]?=some (.cells c1 41 (0,0)):=⟨(HM5.out.drew.on hb6).m.cellP,(hb6.block zy (blk_lt HW5.out)).trans HW5.out⟩
      dsimp only
      refine hK.out _ _ hH (λhH=>?_)
      clear hK K
      try simp only[Act.put,aT,aZ,aS]
      have HM6:=hid (HM5.out.drew.on hb6)
      have HB6:=hid (show Below wr.heap.size wr w6 from HB5.out.trans ((below_of_dr hb6).mono HB5.out.size))
      have HH6:=hid hH
      have HA6:=hid (show (w6.alloc (.cells c1 99)).cell? ⟨z+1,0,none⟩=some (.pointer (some ⟨z,0,none⟩))∧(w6.alloc (.cells c1 99)).heap[zy]?=some (.cells c1 41 (0,0)) from ⟨(HM6.out.on ((Below.refl _ _).alloc (Nat.le_refl _) _)).m.cellP,(Below.heap_alloc _ _ _ (blk_lt HH6.out.2)).trans HH6.out.2⟩)
      clear hb6
      refine take_two 4 7 (by kernel_rfl) (by rfl) (by rfl) (λK hK=>?_) (λK hK=>?_)
      ·skip
       unfold wpAt
       go_simp
       refine hK.out _ _ hH (λhH=>?_)
       clear hK K
       try simp only[Act.put,aT,aZ,aS]
       refine tkC 7 (λK hK=>?_)
       change Oper.wp _ ⟨some 38,_,_,_,_,_⟩ _ _ _ _
       refine wp_bs (.tmp 37) rfl rfl Z1.out ?_
       refine hK.out _ _ HA6.out (λhH=>?_)
       clear hK K
       try simp only[Act.put,aT,aZ,aS]
       refine tkC 8 (λK hK=>?_)
       change Oper.wp _ ⟨some 39,_,_,_,_,_⟩ _ _ _ _
       refine wp_app_T (.tmp 35) (.tmp 38) rfl rfl HM6.out.own (show (L.take k).length=k from by rw[List.length_take,←L1.out];omega) rfl HTR.out (by have:=HN.out;omega) (λb hb=>hb.2) (λg7 c7 w7 ho7 hg7 hl7 hw7=>?_)
       have HM7:=hid (HM6.out.m.turn (Turn.of_grown hg7) (λb hb=>(HM6.out.blk b hb.symm).1))
       have HZ7:=hid (show w7.heap[zy]?=some (.cells c1 41 (0,0)) from (Turn.of_grown hg7).heap HH6.out.2 (λe=>by obtain⟨cs,hrow,_⟩:=HM6.out.own;exact own_ne hrow HH6.out.2 (by decide) e.symm))
       have HF7:=hid (HM6.out.more hg7 hl7 hw7 ho7)
       clear ho7 hg7 hl7 hw7
       refine hK.out _ _ ⟨HM7.out.cellP,HZ7.out⟩ (λhH=>?_)
       clear hK K
       try simp only[Act.put,aT,aZ,aS]
       refine tkV 9 40 (.pointer (some ⟨z,0,none⟩)) hH (λhH=>?_)
       try simp only[Act.put,aT,aZ,aS]
       refine tkV 10 41 (.pointer (some ⟨z,0,none⟩)) hH (λhH=>?_)
       try simp only[Act.put,aT,aZ,aS]
       have f7:w7.frozen? ⟨z,0,none⟩=false:=Lib.frozen_of_heap HM7.out.pc 0
       have g7:w7.cell? ⟨z,0,none⟩=some S:=HM7.out.cellS
       refine tkC 11 (λK hK=>?_)
       unfold wpAt
       go_simp
       refine hK.out _ _ ⟨HF7.out.m.cellP,((Turn.refl (λb=>b=z) w7).setCell (p:=⟨z,0,none⟩) (.inr rfl) _).heap HZ7.out (λe=>by have h1:=HM5.out.m.c0;have h2:wr.heap.size=zy:=Hzy.out;have h3:=blk_lt hM.out.m.pc;omega)⟩ (λhH=>?_)
       clear hK K
       try simp only[Act.put,aT,aZ,aS]
       refine⟨wpAnyH_done (by kernel_rfl) ?_ _⟩
       clear hH
       go_wp2_with fail
       go_roundw
       case rel=>exact⟨k+1,_,by omega,by go_num,hid (by rw[take_oneMore HY.out];exact HF7.out)⟩
       case measure=>simp[intOf];omega
      ·skip
       change Oper.wp _ ⟨some 38,_,_,_,_,_⟩ _ _ _ _
       refine wp_bs (.tmp 37) rfl rfl Z1.out ?_
       refine hK.out _ _ HA6.out (λhH=>?_)
       clear hK K
       try simp only[Act.put,aT,aZ,aS]
       have gA:(w6.alloc (.cells c1 99)).cell? ⟨z,0,none⟩=some S:=(HM6.out.on ((Below.refl _ _).alloc (Nat.le_refl _) _)).m.cellS
       refine tkC 4 (λK hK=>?_)
       unfold wpAt
       go_simp
       refine hK.out _ _ hH (λhH=>?_)
       clear hK K
       try simp only[Act.put,aT,aZ,aS]
       refine tkC 8 (λK hK=>?_)
       change Oper.wp _ ⟨some 39,_,_,_,_,_⟩ _ _ _ _
       refine wp_app_T (.tmp 35) (.tmp 38) rfl rfl HM6.out.own (show (L.take k).length=k from by rw[List.length_take,←L1.out];omega) rfl HTR.out (by have:=HN.out;omega) (λb hb=>hb.2) (λg7 c7 w7 ho7 hg7 hl7 hw7=>?_)
       have HM7:=hid (HM6.out.m.turn (Turn.of_grown hg7) (λb hb=>(HM6.out.blk b hb.symm).1))
       have HZ7:=hid (show w7.heap[zy]?=some (.cells c1 41 (0,0)) from (Turn.of_grown hg7).heap HH6.out.2 (λe=>by obtain⟨cs,hrow,_⟩:=HM6.out.own;exact own_ne hrow HH6.out.2 (by decide) e.symm))
       have HF7:=hid (HM6.out.more hg7 hl7 hw7 ho7)
       clear ho7 hg7 hl7 hw7
       refine hK.out _ _ ⟨HM7.out.cellP,HZ7.out⟩ (λhH=>?_)
       clear hK K
       try simp only[Act.put,aT,aZ,aS]
       refine tkV 9 40 (.pointer (some ⟨z,0,none⟩)) hH (λhH=>?_)
       try simp only[Act.put,aT,aZ,aS]
       refine tkV 10 41 (.pointer (some ⟨z,0,none⟩)) hH (λhH=>?_)
       try simp only[Act.put,aT,aZ,aS]
       have f7:w7.frozen? ⟨z,0,none⟩=false:=Lib.frozen_of_heap HM7.out.pc 0
       have g7:w7.cell? ⟨z,0,none⟩=some S:=HM7.out.cellS
       refine tkC 11 (λK hK=>?_)
       unfold wpAt
       go_simp
       refine hK.out _ _ ⟨HF7.out.m.cellP,((Turn.refl (λb=>b=z) w7).setCell (p:=⟨z,0,none⟩) (.inr rfl) _).heap HZ7.out (λe=>by have h1:=HM5.out.m.c0;have h2:wr.heap.size=zy:=Hzy.out;have h3:=blk_lt hM.out.m.pc;omega)⟩ (λhH=>?_)
       clear hK K
       try simp only[Act.put,aT,aZ,aS]
       refine⟨wpAnyH_done (by kernel_rfl) ?_ _⟩
       clear hH
       go_wp2_with fail
       go_roundw
       case rel=>exact⟨k+1,_,by omega,by go_num,hid (by rw[take_oneMore HY.out];exact HF7.out)⟩
       case measure=>simp[intOf];omega
    ·have hke:n=k:=by omega
     subst hke
     have HM:=hid (show LdT w z S L wr from by have h:=hM.out;rw[List.take_of_length_le (by rw[←L1.out];exact Nat.le_refl _)]at h;exact h)
     have HZ:=hid (show w.heap.size≤z from HM.out.m.c0)
     clear hM
     go_wp2_with fail
     refine (way_0 _).mono ?_
     unfold WayIs
     rintro e w4 ⟨rfl,hb4⟩
     obtain⟨wc,Hwc⟩:=name_itV (wayC (wayN 0))
     have ZW:=hid (show wc.size=3 from by rw[←Hwc.out];rfl)
     have ONW:=hid (show wc.all (·.oneCell')=true from by rw[←Hwc.out];kernel_rfl)
     rw[Hwc.out]
     have HM4:=hid (HM.out.on hb4)
     clear hb4
     obtain⟨zp,Hzp⟩:=name_itV w4.heap.size
     have HBX:=hid (show (w4.alloc (.cells #[.int .i64 0,.int .i64 0,.int .i64 0] 101)).heap[zp]?=some (.cells #[.int .i64 0,.int .i64 0,.int .i64 0] 101 (0,0)) from by rw[←Hzp.out];exact heap_alloc_new w4 _)
     have HI3:=hid (show (Tryz.prog.info? 101).map (·.size)=some wc.size from by rw[ZW.out];kernel_rfl)
     go_upto_region 10 with ((with_reducible refine at_st 7 ?_);refine st_row rfl 101 _ _ rfl zp (#[.int .i64 0,.int .i64 0,.int .i64 0]) wc 101 (by rw[←Hzp.out];rfl) rfl HBX.out ZW.out HI3.out ONW.out ?_;intro w5 hw5 ht5)
     rw[Hzp.out]
     have HB5:=hid (show Below w4.heap.size w4 w5 from box_below (by rw[Hzp.out];exact ht5))
     have HM5:=hid (HM4.out.on HB5.out)
     have HP5:=hid (show w5.heap[zp]?=some (.cells (wayC (wayN 0)) 101 (0,0)) from by rw[Hwc.out];exact hw5)
     clear hw5 ht5 HBX
     have p5:w5.cell? ⟨z+1,0,none⟩=some (.pointer (some ⟨z,0,none⟩)):=HM5.out.m.cellP
     have g5:w5.cell? ⟨z,0,none⟩=some S:=HM5.out.m.cellS
     go_wp2_with fail
     refine (sortT_any (wayN 0) (wayN_ok 0) zp w HM5.out.own (by have:=HN.out;have:=L1.out;omega) (λb hb=>hb.2) HM5.out.m.hb (λb hb=>by have:=(HM5.out.blk b hb).1;have:=HZ.out;omega) HG.out.1 HG.out.2 HP5.out).mono ?_
     rintro e w6 ⟨rfl,L6,hpm,hps,hown6,ht6⟩
     have HM6:=hid (show LdT w z S L6 w6 from ⟨HM5.out.m.turn ht6 (λb hb=>(HM5.out.blk b hb).1),hown6.mono TrS.good λb hb=>⟨hb.1,Nat.lt_of_lt_of_le hb.2 ht6.size⟩⟩)
     have HP6:=hid (ht6.heap HP5.out (λe=>by obtain⟨cs,hrow,_⟩:=HM5.out.own;exact own_ne hrow HP5.out (by decide) e))
     have HSRT:=hid (And.intro hpm hps)
     clear p5 g5 hpm hps hown6 ht6
     have HL6:=hid (show L6.length≤65536 from by rw[HSRT.out.1.length_eq];have:=HN.out;have:=L1.out;omega)
     have g6:w6.drew.cell? ⟨z,0,none⟩=some S:=HM6.out.m.cellS
     go_upto_region 11 with fail
     refine wp_region_held_drew (S:=λW'=>W'.cell? ⟨z+1,0,none⟩=some (.pointer (some ⟨z,0,none⟩))) (by kernel_rfl) HM6.out.m.drew.cellP (λhH=>?_)
     refine Boxed.out ?_
     refine tkW 0 54 (.pointer (some ⟨z,0,none⟩)) hH (λw hSw=>?_) (λhH=>?_)
     ·have p:=hSw
      unfold runsTo
      go_simp
     try simp only[Act.put,aT,aZ,aS]
     refine tkW 1 55 (.pointer (some ⟨z,0,none⟩)) hH (λw hSw=>?_) (λhH=>?_)
     ·have p:=hSw
      unfold runsTo
      go_simp
     try simp only[Act.put,aT,aZ,aS]
     refine tkV 2 56 (.pointer (some ⟨z,0,none⟩)) hH (λhH=>?_)
     try simp only[Act.put,aT,aZ,aS]
     refine tkV 3 57 (.pointer (some ⟨z,0,none⟩)) hH (λhH=>?_)
     try simp only[Act.put,aT,aZ,aS]
     refine tkV 5 59 (.func (.func 53) #[] #[.pointer (some ⟨zp,0,none⟩)]) hH (λhH=>?_)
     try simp only[Act.put,aT,aZ,aS]
     refine tkC 4 (λK hK=>?_)
     unfold wpAt
     go_simp
     refine hK.out _ _ hH (λhH=>?_)
     clear hK K
     try simp only[Act.put,aT,aZ,aS]
     refine tkC 6 (λK hK=>?_)
     change Oper.wp _ ⟨some 60,_,_,_,_,_⟩ _ _ _ _
     go_simp
     refine (compact_any (wayN 0) (wayN_ok 0) zp w (w:=w6.drew) HM6.out.own (by have:=HL6.out;omega) HM6.out.m.hb.drew (λb hb=>by have:=(HM6.out.blk b hb).1;have:=HZ.out;omega) HG.out.1 HG.out.2 HP6.out).mono ?_
     rintro e w7 ⟨s7,rfl,hsb,hown7,ht7⟩
     have HT:=hid (show cpt (along (wayN 0)) L6=loadR (along (wayN 0)) L from cpt_load (along_pre _) HSRT.out.1 (HSRT.out.2.imp λh=>by omega) (λa ha b hb h0=>along_eq (wayN_ok 0) (mayT_scal (HMT.out a ha) (HOK.out a ha)) (mayT_scal (HMT.out b hb) (HOK.out b hb)) h0))
     obtain⟨A7,c7,e7⟩:=hown7.form
     rw[HT.out]at hown7 e7
     obtain⟨T,HTT⟩:=name_itV (loadR (along (wayN 0)) L)
     rw[HTT.out]at hown7 e7
     obtain⟨nT,HnT⟩:=name_itV T.length
     rw[HnT.out]at e7
     subst e7
     have HM7:=hid (HM6.out.m.drew.turn ht7 (λb hb=>(HM6.out.blk b hb).1))
     have HO7:=hid (show SOwn 99 18 TrS w7 (λb=>z+2≤b∧b<w7.heap.size) T (.slice A7 nT c7) from hown7.mono TrS.good λb hb=>⟨hb.1,Nat.lt_of_lt_of_le hb.2 ht7.size⟩)
     clear hsb hown7 ht7 g6
     dsimp only
     refine hK.out _ _ HM7.out.cellP (λhH=>?_)
     clear hK K
     try simp only[Act.put,aT,aZ,aS]
     refine tkV 7 61 (.pointer (some ⟨z,0,none⟩)) hH (λhH=>?_)
     try simp only[Act.put,aT,aZ,aS]
     refine tkV 8 62 (.pointer (some ⟨z,0,none⟩)) hH (λhH=>?_)
     try simp only[Act.put,aT,aZ,aS]
     have g7:w7.cell? ⟨z,0,none⟩=some S:=HM7.out.cellS
     have f7:w7.frozen? ⟨z,0,none⟩=false:=Lib.frozen_of_heap HM7.out.pc 0
     refine tkC 9 (λK hK=>?_)
     unfold wpAt
     go_simp
     have HM8:=hid (show LdT w z (.slice A7 nT c7) T (w7.setCell ⟨z,0,none⟩ (.slice A7 nT c7)) from ⟨HM7.out.setS _,(HO7.out.turn TrS.good ((Turn.refl (λb=>b=z) w7).setCell (p:=⟨z,0,none⟩) (.inr rfl) _) (λb hb=>hb.2) (λb hb e=>by have e:b=z:=e;have:=hb.1;omega)).mono TrS.good λb hb=>⟨hb.1,by have ht:=(Turn.refl (λb=>b=z) w7).setCell (p:=⟨z,0,none⟩) (.inr rfl) (.slice A7 nT c7);exact Nat.lt_of_lt_of_le hb.2 ht.size⟩⟩)
     refine hK.out _ _ HM8.out.m.cellP (λhH=>?_)
     clear hK K
     try simp only[Act.put,aT,aZ,aS]
     refine⟨wpAnyH_done (by kernel_rfl) ?_ _⟩
     clear hH g7 f7 HM7 HO7
     have HTS:=hid (show (∀t,t∈T→t∈L)∧Rise (along (wayN 0)) T∧T.length≤65536 from by
      have hl:=loadR_is (along_pre (wayN 0)) (l:=L) (λa ha b hb h0=>along_eq (wayN_ok 0) (mayT_scal (HMT.out a ha) (HOK.out a ha)) (mayT_scal (HMT.out b hb) (HOK.out b hb)) h0)
      rw[HTT.out]at hl
      exact⟨λt ht=>(hl.2 t).1 ht,hl.1,by have:=cpt_len (along (wayN 0)) L6;rw[HT.out,HTT.out]at this;have:=HL6.out;omega⟩)
     have HSC:=hid (λt (ht:t∈T)=>mayT_scal (HMT.out t (HTS.out.1 t ht)) (HOK.out t (HTS.out.1 t ht)))
     have HFT:=hid (λt (ht:t∈T) (n:Nat)=>((HOK.out t (HTS.out.1 t ht)).get n).fit)
     have HND:=hid (show T.Nodup from HTS.out.2.1.imp fun {a b} h e=>by rw[e,(along_pre (wayN 0)).refl]at h;omega)
     have HNT:=hid (show nT≤65536 from by rw[←HnT.out];exact HTS.out.2.2)
     obtain⟨w8,HW8⟩:=name_itV (w7.setCell ⟨z,0,none⟩ (.slice A7 nT c7))
     rw[HW8.out]at HM8 ⊢
     clear HW8
     obtain⟨zo,Hzo⟩:=name_itV w8.heap.size
     obtain⟨w9,HW9⟩:=name_itV (w8.alloc (.cells #[.string ⟨#[115,112,111]⟩,.string ⟨#[115,111,112]⟩,.string ⟨#[112,115,111]⟩,.string ⟨#[112,111,115]⟩,.string ⟨#[111,115,112]⟩,.string ⟨#[111,112,115]⟩] 9))
     have HX9:=hid (show LdX w z (.slice A7 nT c7) T nilS zo 0 [] w9 from by rw[←HW9.out,←Hzo.out];exact LdX.start HM8.out)
     go_wp2_with fail
     rw[Hzo.out,HW9.out]
     clear HW9 Hzo HM8
     go_loopw [65] (λs wx=>∃(j:Nat) (ss:Nat→Value),j≤6∧s = .int .i64 (j:Nat)∧Hid (LdX w z (.slice A7 nT c7) T ss zo j [] wx∧(j<6→ss j = .slice none 0 0))) (λs _=>6-(intOf s).toNat)
     case atStart=>exact⟨0,nilS,by omega,rfl,hid ⟨HX9.out,λ_=>rfl⟩⟩
     case round=>
      obtain⟨j,ss,hj6,rfl,hM⟩:=hrel
      by_cases hjl:j<6
      ·have e3:(0:Int)≤j:=by omega
       have e4:(j:Int)<6:=by omega
       have HJ:=hid hjl
       have w3:IntKind.i64.wrap ((j:Int)+1)=(j:Int)+1:=IntWalk.i64_in _ (by omega)
       have q0:wr.cell? ⟨zo,j,none⟩=some (.string (wayT j)):=hM.out.1.name hjl
       have hadd:(⟨zo,0,none⟩:Addr).add j=⟨zo,j,none⟩:=by rw[Addr.add_mid,Nat.zero_add]
       go_wp2_with fail
       refine (way_any j HJ.out _).mono ?_
       unfold WayIs
       rintro e w10 ⟨rfl,hb10⟩
       have HX10:=hid (hM.out.1.on hb10)
       have HS0:=hid (hM.out.2 HJ.out)
       clear hM hb10 q0
       obtain⟨wq,Hwq⟩:=name_itV (wayC (wayN j))
       have ZQ:=hid (show wq.size=3 from by rw[←Hwq.out];rfl)
       have ONQ:=hid (show wq.all (·.oneCell')=true from by rw[←Hwq.out];kernel_rfl)
       rw[Hwq.out]
       obtain⟨zq,Hzq⟩:=name_itV w10.heap.size
       have HBQ:=hid (show (w10.alloc (.cells #[.int .i64 0,.int .i64 0,.int .i64 0] 101)).heap[zq]?=some (.cells #[.int .i64 0,.int .i64 0,.int .i64 0] 101 (0,0)) from by rw[←Hzq.out];exact heap_alloc_new w10 _)
       have HIQ:=hid (show (Tryz.prog.info? 101).map (·.size)=some wq.size from by rw[ZQ.out];kernel_rfl)
       go_upto_region 16 with ((with_reducible refine at_st 12 ?_);refine st_row rfl 101 _ _ rfl zq (#[.int .i64 0,.int .i64 0,.int .i64 0]) wq 101 (by rw[←Hzq.out];rfl) rfl HBQ.out ZQ.out HIQ.out ONQ.out ?_;intro w11 hw11 ht11)
       rw[Hzq.out]
       have HX11:=hid (HX10.out.on (box_below (w5:=w11) (by rw[Hzq.out];exact ht11)))
       have HQ11:=hid (show w11.heap[zq]?=some (.cells (wayC (wayN j)) 101 (0,0)) from by rw[Hwq.out];exact hw11)
       have HZQ:=hid (show z+2≤zq from by have:=blk_lt HX10.out.m.ph;have h2:w10.heap.size=zq:=Hzq.out;omega)
       clear hw11 ht11 HBQ HX10
       have p11:w11.cell? ⟨z+1,0,none⟩=some (.pointer (some ⟨z,0,none⟩)):=HX11.out.m.cellP
       have g11:w11.cell? ⟨z,0,none⟩=some (.slice A7 nT c7):=HX11.out.m.cellS
       go_wp2_with fail
       go_loopw [80] (λs wx=>∃(k:Nat) (ss':Nat→Value),k≤nT∧s = .int .i64 (k:Nat)∧Hid (LdX w z (.slice A7 nT c7) T ss' zo j (List.range k) wx∧(k=0→ss' j = .slice none 0 0)∧(∀i,i<6→j<i→ss' i = .slice none 0 0)∧wx.heap[zq]?=some (.cells (wayC (wayN j)) 101 (0,0)))) (λs _=>nT-(intOf s).toNat)
       case atStart=>exact⟨0,ss,by omega,rfl,hid ⟨HX11.out,λ_=>HS0.out,λi hi hji=>by obtain⟨_,_,_,h3⟩:=HX11.out.rows i hi (by omega);exact h3 hji,HQ11.out⟩⟩
       case round=>
        obtain⟨k,ss',hkn,rfl,hN⟩:=hrel
        by_cases hkl:k<nT
        ·have w8k:IntKind.i64.wrap ((k:Int)+1)=(k:Int)+1:=IntWalk.i64_in _ (by have:=HNT.out;omega)
         have HKL:=hid hkl
         have HRJ:=hid (show wr.drew.ownsRow 0 3 1 (ss' j) k (ixC (List.range k)) from by have h:=(hN.out.1.rowj HJ.out).row;rw[List.length_range]at h;exact h)
         have g19:wr.drew.cell? ⟨z,1+j,none⟩=some (ss' j):=hN.out.1.m.cellJ HJ.out
         have HXD:=hid hN.out.1.drew
         go_upto_region 19 with fail
         refine wp_region_held_drew (S:=λW'=>W'.cell? ⟨z+1,0,none⟩=some (.pointer (some ⟨z,0,none⟩))) (by kernel_rfl) HXD.out.m.cellP (λhH=>?_)
         refine Boxed.out ?_
         refine tkW 0 83 (.pointer (some ⟨z,0,none⟩)) hH (λw hSw=>?_) (λhH=>?_)
         ·have p:=hSw
          unfold runsTo
          go_simp
         try simp only[Act.put,aT,aZ,aS]
         refine tkV 1 84 (.int .i64 (j:Nat)) hH (λhH=>?_)
         try simp only[Act.put,aT,aZ,aS]
         refine tkW 2 85 (.pointer (some ⟨z,0,none⟩)) hH (λw hSw=>?_) (λhH=>?_)
         ·have p:=hSw
          unfold runsTo
          go_simp
         try simp only[Act.put,aT,aZ,aS]
         refine tkV 3 86 (.int .i64 (j:Nat)) hH (λhH=>?_)
         try simp only[Act.put,aT,aZ,aS]
         refine tkV 4 87 (.pointer (some ⟨z,0,none⟩)) hH (λhH=>?_)
         try simp only[Act.put,aT,aZ,aS]
         refine tkV 5 88 (.pointer (some ⟨z,1,none⟩)) hH (λhH=>?_)
         try simp only[Act.put,aT,aZ,aS]
         refine tkW 6 89 (.pointer (some ⟨z,1+j,none⟩)) hH (λw hSw=>?_) (λhH=>?_)
         ·exact val_of (idx_six z j HJ.out w)
         try simp only[Act.put,aT,aZ,aS]
         refine tkV 8 91 (.int .i64 (k:Nat)) hH (λhH=>?_)
         try simp only[Act.put,aT,aZ,aS]
         refine tkV 11 94 (.pointer (some ⟨z,0,none⟩)) hH (λhH=>?_)
         try simp only[Act.put,aT,aZ,aS]
         refine tkV 12 95 (.pointer (some ⟨z,1,none⟩)) hH (λhH=>?_)
         try simp only[Act.put,aT,aZ,aS]
         refine take_two 7 9 (by kernel_rfl) (by rfl) (by rfl) (λK hK=>?_) (λK hK=>?_)
         ·skip
          unfold wpAt
          go_simp
          refine hK.out _ _ hH (λhH=>?_)
          clear hK K
          try simp only[Act.put,aT,aZ,aS]
          refine tkC 9 (λK hK=>?_)
          unfold wpAt
          go_simp
          refine hK.out _ _ (show (wr.alloc (.cells #[.int .i64 (k:Nat)] 3)).drew.cell? ⟨z+1,0,none⟩=some (.pointer (some ⟨z,0,none⟩)) from (hN.out.1.on ((Below.refl _ _).alloc (Nat.le_refl _) _)).m.drew.cellP) (λhH=>?_)
          clear hK K
          try simp only[Act.put,aT,aZ,aS]
          refine tkC 10 (λK hK=>?_)
          change Oper.wp _ ⟨some 93,_,_,_,_,_⟩ _ _ _ _
          refine wp_app_I (.tmp 90) (.tmp 92) rfl (wr:=wr.drew) (k:=k) rfl List.length_range HRJ.out rfl (by have:=HNT.out;have:=HKL.out;omega) (λg12 c12 w12 ho12 hg12 hl12 hw12=>?_)
          have HM12:=hid (HXD.out.m.turn (Turn.of_grown hg12) (λb hb=>((HXD.out.rowj HJ.out).blk b hb.symm).1))
          have HX12:=hid (HXD.out.store (v:=.slice (some ⟨g12,0,none⟩) (k+1) c12) (ix':=List.range (k+1)) HJ.out hg12 hl12 hw12 rfl (by rw[List.length_range,List.range_succ];exact ho12))
          have HQ12:=hid (show w12.heap[zq]?=some (.cells (wayC (wayN j)) 101 (0,0)) from (Turn.of_grown hg12).heap hN.out.2.2.2 (λe=>own_ne HRJ.out hN.out.2.2.2 (by decide) e.symm))
          have f12:w12.frozen? ⟨z,1+j,none⟩=false:=Lib.frozen_of_heap HM12.out.pc _
          have g12b:w12.cell? ⟨z,1+j,none⟩=some (ss' j):=HM12.out.cellJ HJ.out
          clear ho12 hg12 hl12 hw12
          refine hK.out _ _ HM12.out.cellP (λhH=>?_)
          clear hK K
          try simp only[Act.put,aT,aZ,aS]
          refine tkW 13 96 (.pointer (some ⟨z,1+j,none⟩)) hH (λw hSw=>?_) (λhH=>?_)
          ·exact val_of (idx_six z j HJ.out w)
          try simp only[Act.put,aT,aZ,aS]
          refine tkC 14 (λK hK=>?_)
          unfold wpAt
          go_simp
          refine hK.out _ _ HX12.out.m.cellP (λhH=>?_)
          clear hK K
          try simp only[Act.put,aT,aZ,aS]
          refine⟨wpAnyH_done (by kernel_rfl) ?_ _⟩
          clear hH f12 g12b
          have HQ14:=hid (((Turn.refl (λb=>b=z) w12).setCell (p:=⟨z,1+j,none⟩) (.inr rfl) (.slice (some ⟨g12,0,none⟩) (k+1) c12)).heap HQ12.out (by have:=HZQ.out;omega))
          have HNI:=hid hN.out.2.2.1
          clear hN
          go_wp2_with fail
          go_roundw
          case rel=>exact⟨k+1,updV ss' j (.slice (some ⟨g12,0,none⟩) (k+1) c12),by omega,by go_num,hid ⟨HX12.out,λh=>by omega,λi hi hji=>(if_neg (by omega)).trans (HNI.out i hi hji),HQ14.out⟩⟩
          case measure=>simp[intOf];omega
         ·skip
          unfold wpAt
          go_simp
          refine hK.out _ _ (show (wr.alloc (.cells #[.int .i64 (k:Nat)] 3)).drew.cell? ⟨z+1,0,none⟩=some (.pointer (some ⟨z,0,none⟩)) from (hN.out.1.on ((Below.refl _ _).alloc (Nat.le_refl _) _)).m.drew.cellP) (λhH=>?_)
          clear hK K
          try simp only[Act.put,aT,aZ,aS]
          have g19b:(wr.alloc (.cells #[.int .i64 (k:Nat)] 3)).drew.cell? ⟨z,1+j,none⟩=some (ss' j):=(hN.out.1.on ((Below.refl _ _).alloc (Nat.le_refl _) _)).m.drew.cellJ HJ.out
          refine tkC 7 (λK hK=>?_)
          unfold wpAt
          go_simp
          refine hK.out _ _ hH (λhH=>?_)
          clear hK K
          try simp only[Act.put,aT,aZ,aS]
          refine tkC 10 (λK hK=>?_)
          change Oper.wp _ ⟨some 93,_,_,_,_,_⟩ _ _ _ _
          refine wp_app_I (.tmp 90) (.tmp 92) rfl (wr:=wr.drew) (k:=k) rfl List.length_range HRJ.out rfl (by have:=HNT.out;have:=HKL.out;omega) (λg12 c12 w12 ho12 hg12 hl12 hw12=>?_)
          have HM12:=hid (HXD.out.m.turn (Turn.of_grown hg12) (λb hb=>((HXD.out.rowj HJ.out).blk b hb.symm).1))
          have HX12:=hid (HXD.out.store (v:=.slice (some ⟨g12,0,none⟩) (k+1) c12) (ix':=List.range (k+1)) HJ.out hg12 hl12 hw12 rfl (by rw[List.length_range,List.range_succ];exact ho12))
          have HQ12:=hid (show w12.heap[zq]?=some (.cells (wayC (wayN j)) 101 (0,0)) from (Turn.of_grown hg12).heap hN.out.2.2.2 (λe=>own_ne HRJ.out hN.out.2.2.2 (by decide) e.symm))
          have f12:w12.frozen? ⟨z,1+j,none⟩=false:=Lib.frozen_of_heap HM12.out.pc _
          have g12b:w12.cell? ⟨z,1+j,none⟩=some (ss' j):=HM12.out.cellJ HJ.out
          clear ho12 hg12 hl12 hw12
          refine hK.out _ _ HM12.out.cellP (λhH=>?_)
          clear hK K
          try simp only[Act.put,aT,aZ,aS]
          refine tkW 13 96 (.pointer (some ⟨z,1+j,none⟩)) hH (λw hSw=>?_) (λhH=>?_)
          ·exact val_of (idx_six z j HJ.out w)
          try simp only[Act.put,aT,aZ,aS]
          refine tkC 14 (λK hK=>?_)
          unfold wpAt
          go_simp
          refine hK.out _ _ HX12.out.m.cellP (λhH=>?_)
          clear hK K
          try simp only[Act.put,aT,aZ,aS]
          refine⟨wpAnyH_done (by kernel_rfl) ?_ _⟩
          clear hH f12 g12b
          have HQ14:=hid (((Turn.refl (λb=>b=z) w12).setCell (p:=⟨z,1+j,none⟩) (.inr rfl) (.slice (some ⟨g12,0,none⟩) (k+1) c12)).heap HQ12.out (by have:=HZQ.out;omega))
          have HNI:=hid hN.out.2.2.1
          clear hN
          go_wp2_with fail
          go_roundw
          case rel=>exact⟨k+1,updV ss' j (.slice (some ⟨g12,0,none⟩) (k+1) c12),by omega,by go_num,hid ⟨HX12.out,λh=>by omega,λi hi hji=>(if_neg (by omega)).trans (HNI.out i hi hji),HQ14.out⟩⟩
          case measure=>simp[intOf];omega
        ·have hke2:nT=k:=by omega
         subst hke2
         have p21:wr.cell? ⟨z+1,0,none⟩=some (.pointer (some ⟨z,0,none⟩)):=hN.out.1.m.cellP
         have g21:wr.cell? ⟨z,1+j,none⟩=some (ss' j):=hN.out.1.m.cellJ HJ.out
         have hadd2:(⟨z,1,none⟩:Addr).add j=⟨z,1+j,none⟩:=Addr.add_mid _ _ _
         have HSJ:=hid (sortJ_any hN.out.1 HJ.out HnT.out hN.out.2.1 hN.out.2.2.2 HG.out.1 HG.out.2 HSC.out HND.out HNT.out)
         have HNI:=hid hN.out.2.2.1
         clear hN
         go_wp2_with fail
         refine HSJ.out.mono ?_
         rintro e w13 ⟨rfl,ix',hix,hx13⟩
         have HX13:=hid (hx13.next HJ.out hix)
         clear hix hx13 HSJ p21 g21
         go_wp2_with fail
         go_roundw
         case rel=>exact⟨j+1,ss',by omega,by go_num,hid ⟨HX13.out,λh=>HNI.out (j+1) h (by omega)⟩⟩
         case measure=>simp[intOf];omega
      ·have hj6e:j=6:=by omega
       subst hj6e
       have p23:wr.cell? ⟨z+1,0,none⟩=some (.pointer (some ⟨z,0,none⟩)):=hM.out.1.m.cellP
       have HFN:=hid (show LoadTIs L w (.returned (.tuple #[.pointer (some ⟨z,0,none⟩),.int .i64 0])) wr from .inr ⟨by have:=HN.out;have:=L1.out;omega,HALL.out,z,rfl,hM.out.1.m.hb,by rw[HTT.out];exact hM.out.1.whole HSC.out HFT.out HTS.out.2.1 HTS.out.2.2⟩)
       clear hM
       go_wp2_with fail
       go_ret2
       exact HFN.out
def Kof (T:List Trip) (ix:List Nat):List Trip:=ix.map λk=>T.getD k tripB
theorem kof_len (T:List Trip) (ix:List Nat):(Kof T ix).length=ix.length:=by unfold Kof;simp
theorem kof_get {T:List Trip} {ix:List Nat} {n k:Nat} {t:Trip} (h1:ix[n]?=some k) (h2:T[k]?=some t):(Kof T ix)[n]?=some t:=by
 unfold Kof
 rw[List.getElem?_map,h1]
 simp[h2]
theorem inway_of {j:Nat} {T:List Trip} {ix:List Nat} (h:IxOf (wayN j) T ix) (hs:∀t,t∈T→ScalT t):InWay T (Kof T ix) (wayN j):=by
 refine⟨wayN_ok j,λt=>?_,hs,?_⟩
 ·unfold Kof
  rw[List.mem_map]
  constructor
  ·rintro⟨k,hk,rfl⟩
   have:=h.lt hk
   rw[List.getD_eq_getElem?_getD,List.getElem?_eq_getElem this]
   exact List.getElem_mem this
  ·intro ht
   obtain⟨k,hk⟩:=List.getElem?_of_mem ht
   refine⟨k,h.perm.mem_iff.2 (List.mem_range.2 (List.getElem?_eq_some_iff.1 hk).1),?_⟩
   rw[List.getD_eq_getElem?_getD,hk]
   rfl
 ·unfold Kof
  rw[Rise,List.pairwise_map]
  have hall:=h.rise.and (List.pairwise_iff_forall_sublist.2 fun {a b} hab=>(⟨hab.subset (by simp),hab.subset (by simp)⟩:a∈ix∧b∈ix))
  refine hall.imp fun {a b} hab=>?_
  obtain⟨h1,ha,hb⟩:=hab
  have la:=h.lt ha
  have lb:=h.lt hb
  rw[List.getD_eq_getElem?_getD,List.getD_eq_getElem?_getD,List.getElem?_eq_getElem la,List.getElem?_eq_getElem lb]
  exact h1 _ _ (List.getElem?_eq_getElem la) (List.getElem?_eq_getElem lb)
def curC (c:Nat) (W:Way) (s:Value) (d:Nat) (at_ en:Nat→Nat):Array Value:=
 #[.pointer (some ⟨c,0,none⟩),.int .i64 (W.i:Nat),.int .i64 (W.j:Nat),.int .i64 (W.k:Nat),s,.int .i64 (d:Nat),.int .i64 (at_ 0:Nat),.int .i64 (en 0:Nat),.int .i64 (at_ 1:Nat),.int .i64 (en 1:Nat),.int .i64 (at_ 2:Nat),.int .i64 (en 2:Nat),.int .i64 (at_ 3:Nat),.int .i64 (en 3:Nat)]
structure CurR (F:Nat→Prop) (c:Nat) (j:Nat) (T:List Trip) (ix:List Nat) (cs:Nat→Array Value) (S s:Value) (w:World):Prop where
 st:w.cell? ⟨c,0,none⟩=some S
 row:RowT F w cs T S
 nums:RowI F w ix s
 ixo:IxOf (wayN j) T ix
 fc:F c
 j6:j<6
 scal:∀t,t∈T→ScalT t
 fit:∀t,t∈T→∀n,FitV (t.get n)
 len:T.length≤65536
structure CurW (F:Nat→Prop) (q c:Nat) (j:Nat) (T:List Trip) (ix:List Nat) (cs:Nat→Array Value) (S s:Value) (d:Nat) (at_ en:Nat→Nat) (w:World):Prop where
 r:CurR F c j T ix cs S s w
 cur:w.heap[q]?=some (.cells (curC c (wayN j) s d at_ en) 171 (0,0))
 fq:¬F q
 fl:∀b,F b→b<w.heap.size
section
variable {F:Nat→Prop} {q c j:Nat} {T:List Trip} {ix:List Nat} {cs:Nat→Array Value} {S s:Value} {d:Nat} {at_ en:Nat→Nat} {w w':World}
theorem CurR.keep (h:CurR F c j T ix cs S s w) (hk:∀b,F b→w'.heap[b]?=w.heap[b]?):CurR F c j T ix cs S s w':=
 ⟨(World.cell?_of_block (a:=⟨c,0,none⟩) (hk c h.fc)).trans h.st,h.row.keep λ_ hp=>World.cell?_of_block (hk _ hp),h.nums.keep λ_ hp=>World.cell?_of_block (hk _ hp),h.ixo,h.fc,h.j6,h.scal,h.fit,h.len⟩
theorem CurW.turn (h:CurW F q c j T ix cs S s d at_ en w) {Tn:Nat→Prop} (ht:Turn Tn w w') (h1:∀b,F b→¬Tn b) (h2:¬Tn q):CurW F q c j T ix cs S s d at_ en w':=
 ⟨h.r.keep λb hb=>ht.block b (h.fl b hb) (h1 b hb),ht.heap h.cur h2,h.fq,λb hb=>Nat.lt_of_lt_of_le (h.fl b hb) ht.size⟩
theorem CurW.on (h:CurW F q c j T ix cs S s d at_ en w) (hb:Below w.heap.size w w'):CurW F q c j T ix cs S s d at_ en w':=
 h.turn (Turn.of_below hb) (λb hb2 h2=>by have:=h.fl b hb2;have h2:w.heap.size≤b:=h2;omega) (λh2=>by have:=blk_lt h.cur;have h2:w.heap.size≤q:=h2;omega)
theorem CurW.drew (h:CurW F q c j T ix cs S s d at_ en w):CurW F q c j T ix cs S s d at_ en w.drew:=h.on (Below.refl _ _).drew
theorem CurW.c0 (h:CurW F q c j T ix cs S s d at_ en w):w.cell? ⟨q,0,none⟩=some (.pointer (some ⟨c,0,none⟩)):=cell_of_heap h.cur 0
theorem CurW.c4 (h:CurW F q c j T ix cs S s d at_ en w):w.cell? ⟨q,4,none⟩=some s:=cell_of_heap h.cur 4
theorem CurW.c5 (h:CurW F q c j T ix cs S s d at_ en w):w.cell? ⟨q,5,none⟩=some (.int .i64 (d:Nat)):=cell_of_heap h.cur 5
theorem CurW.cw (h:CurW F q c j T ix cs S s d at_ en w) {e:Nat} (he:e<3):w.cell? ⟨q,1+e,none⟩=some (.int .i64 ((wayN j).get e:Nat)):=by
 rcases (show e=0∨e=1∨e=2 by omega) with rfl | rfl | rfl<;>exact cell_of_heap h.cur _
theorem CurW.ca (h:CurW F q c j T ix cs S s d at_ en w) {e:Nat} (he:e<4):w.cell? ⟨q,6+e*2,none⟩=some (.int .i64 (at_ e:Nat)):=by
 rcases (show e=0∨e=1∨e=2∨e=3 by omega) with rfl | rfl | rfl | rfl<;>exact cell_of_heap h.cur _
theorem CurW.ce (h:CurW F q c j T ix cs S s d at_ en w) {e:Nat} (he:e<4):w.cell? ⟨q,6+e*2+1,none⟩=some (.int .i64 (en e:Nat)):=by
 rcases (show e=0∨e=1∨e=2∨e=3 by omega) with rfl | rfl | rfl | rfl<;>exact cell_of_heap h.cur _
theorem CurR.stand (h:CurR F c j T ix cs S s w) {n:Nat} (hn:n<ix.length):∃(r1 c1 r2 o2 c2 k:Nat) (t:Trip) (ss:Nat→Value),S = .slice (some ⟨r1,0,none⟩) T.length c1∧s = .slice (some ⟨r2,o2,none⟩) ix.length c2∧ix[n]?=some k∧T[k]?=some t∧(Kof T ix)[n]?=some t∧k<T.length ∧
    (∀w':World,CurR F c j T ix cs S s w'→w'.cell? ⟨r2,o2+n,none⟩=some (.int .i64 (k:Nat))∧∀e,e<3→w'.rangeAt r1 (k*18+e*6) (cellsV (t.get e) (ss e)).toList)∧(∀e,e<3→∃A cap,ss e = .slice A 0 cap):=by
 obtain⟨k,hk⟩:∃k,ix[n]?=some k:=⟨_,List.getElem?_eq_getElem hn⟩
 have hkT:=h.ixo.lt (List.mem_of_getElem? hk)
 obtain⟨t,ht⟩:∃t,T[k]?=some t:=⟨_,List.getElem?_eq_getElem hkT⟩
 obtain⟨A,cap,rfl,hc1,hr1⟩:=h.row.form
 obtain⟨B,cap2,rfl,hc2,hr2⟩:=h.nums
 obtain⟨r1,rfl,_,hx1⟩:=hr1 (by omega)
 obtain⟨r2,o2,rfl,_,hx2⟩:=hr2 (by omega)
 obtain⟨_,_,ss,hss,hcs⟩:=h.row.el k t ht
 refine⟨r1,cap,r2,o2,cap2,k,t,ss,rfl,rfl,hk,ht,kof_get hk ht,hkT,λw' h'=>⟨?_,λe he i v hv=>?_⟩,hss⟩
 ·obtain⟨B',cap',e1,_,hr3⟩:=h'.nums
  injection e1 with e1 _ _
  obtain⟨r3,o3,e3,_,hx3⟩:=hr3 (by omega)
  rw[←e1]at e3
  injection e3 with e3
  injection e3 with e3 e4
  subst e3 e4
  exact hx3 n k hk
 ·obtain⟨A',cap',e1,_,hr3⟩:=h'.row.form
  injection e1 with e1 _ _
  obtain⟨r3,e3,_,hx3⟩:=hr3 (by omega)
  rw[←e1]at e3
  injection e3 with e3
  injection e3 with e3
  subst e3
  have hi:i<6:=(List.getElem?_eq_some_iff.1 hv).1
  rw[show k*18+e*6+i=k*18+(e*6+i) by omega,hx3 k hkT (e*6+i) (by omega),hcs,cellsT_part t ss e he i hi,←Array.getElem?_toList]
  exact hv
end
theorem idx_way (q e:Nat) (he:e<3) (w:World):(Instr.indexAt 101 (.pointer (some ⟨q,1,none⟩)) (.int .i64 (e:Nat))).run Tryz.prog w = .ok (.pointer (some ⟨q,1+e,none⟩)) w:=by
 rcases (show e=0∨e=1∨e=2 by omega) with rfl | rfl | rfl<;>kernel_rfl
theorem idx_lv (q e:Nat) (he:e<4) (w:World):(Instr.indexAt 169 (.pointer (some ⟨q,6,none⟩)) (.int .i64 (e:Nat))).run Tryz.prog w = .ok (.pointer (some ⟨q,6+e*2,none⟩)) w:=by
 rcases (show e=0∨e=1∨e=2∨e=3 by omega) with rfl | rfl | rfl | rfl<;>kernel_rfl
theorem idx_num (r o n cap a:Nat) (ha:a<n) (w:World):(Instr.indexAt 94 (.slice (some ⟨r,o,none⟩) n cap) (.int .i64 (a:Nat))).run Tryz.prog w = .ok (.pointer (some ⟨r,o+a,none⟩)) w:=by
 have e1:(0:Int)≤a:=by omega
 have e2:(a:Int)<n:=by omega
 have hadd:(⟨r,o,none⟩:Addr).add a=⟨r,o+a,none⟩:=Addr.add_mid _ _ _
 go_simp
theorem idx_parto (r o n:Nat) (hn:n<3) (w:World):(Instr.indexAt 99 (.pointer (some ⟨r,o,none⟩)) (.int .i64 (n:Nat))).run Tryz.prog w = .ok (.pointer (some ⟨r,o+n*6,none⟩)) w:=by
 have e1:(0:Int)≤n:=by omega
 have e2:(n:Int)<3:=by omega
 have hadd:(⟨r,o,none⟩:Addr).add (n*6)=⟨r,o+n*6,none⟩:=Addr.add_mid _ _ _
 go_simp
def KeyIs (v:Val) (w:World) (e:Ending) (w':World):Prop:=∃A cap,e = .returned (.agg (cellsV v (.slice A 0 cap)))∧Below w.heap.size w w'
theorem infoV6:(Tryz.prog.info? 39).map (·.size)=some 6:=by kernel_rfl
theorem key_any {F:Nat→Prop} {q c j:Nat} {T:List Trip} {ix:List Nat} {cs:Nat→Array Value} {S s:Value} {d d':Nat} {at_ en:Nat→Nat} {w:World} (h:CurW F q c j T ix cs S s d' at_ en w) (hdd:d'=d+1) (hd:d<3) (n:Nat) (hn:n<ix.length) (t:Trip) (ht:(Kof T ix)[n]?=some t) :
    Calls Tryz.prog 109 #[.pointer (some ⟨q,0,none⟩),.int .i64 (n:Nat)] w (KeyIs (t.get ((wayN j).get d)) w):=by
 obtain⟨r1,c1,r2,o2,c2,k,t',ss,e1,e2,hk,htk,hkk,hkT,hw,hss⟩:=h.r.stand hn
 rw[ht]at hkk
 injection hkk with hkk
 subst hkk
 subst e1
 subst e2
 have HCW:=hid h
 have HD:=hid hd
 have HN:=hid hn
 have HK:=hid hkT
 have HW:=hid hw
 obtain⟨N,HT⟩:=name_itV T.length
 obtain⟨M,HM⟩:=name_itV ix.length
 rw[HM.out]at HN
 rw[HT.out]at HK
 have HWL:=hid (show (wayN j).get d<3 from (wayN_ok j).lt d)
 obtain⟨p,HP⟩:=name_itV ((wayN j).get d)
 rw[HP.out]at HWL ⊢
 obtain⟨A,cap,hs⟩:=hss p HWL.out
 have HR:=hid (λ(w':World) (h':CurW F q c j T ix cs (.slice (some ⟨r1,0,none⟩) T.length c1) (.slice (some ⟨r2,o2,none⟩) ix.length c2) d' at_ en w')=>(hw w' h'.r).2 p HWL.out)
 obtain⟨u,Hu⟩:=name_itV (cellsV (t.get p) (ss p))
 have HE:=hid (show ∀w',Below w.heap.size w w'→KeyIs (t.get p) w (.returned (.agg u)) w' from λw' hb=>⟨A,cap,by rw[←hs,Hu.out],hb⟩)
 have Z6:=hid (show u.size=6 from by rw[←Hu.out];rfl)
 have ON6:=hid (show u.all (·.oneCell')=true from by rw[←Hu.out,hs];kernel_rfl)
 rw[Hu.out]at HR
 have I6:=hid (infoV6.trans (congrArg some Z6.out.symm))
 clear Hu hs hss hw h hd hn hkT hk htk ht
 obtain⟨z,Hz⟩:=name_itV w.heap.size
 obtain⟨w1,HW1⟩:=name_itV (w.alloc (.cells (#[.int .i64 0,.bool false,.int .i64 0,.string ⟨#[]⟩,.string ⟨#[]⟩,.slice none 0 0]) 39))
 have HB1:=hid (show Below w.heap.size w w1 from by rw[←HW1.out];exact (Below.refl _ _).alloc (Nat.le_refl _) _)
 have HX1:=hid (show w1.heap[z]?=some (.cells (#[.int .i64 0,.bool false,.int .i64 0,.string ⟨#[]⟩,.string ⟨#[]⟩,.slice none 0 0]) 39 (0,0)) from by rw[←HW1.out,←Hz.out];exact heap_alloc_new w _)
 have HC1:=hid (HCW.out.on HB1.out)
 have HZF:=hid (show (∀b,F b→¬b=z)∧¬q=z from ⟨λb hb e=>by have:=HCW.out.fl b hb;have h2:w.heap.size=z:=Hz.out;omega,λe=>by have:=blk_lt HCW.out.cur;have h2:w.heap.size=z:=Hz.out;omega⟩)
 have e9:IntKind.i64.wrap ((d':Int)-1)=(d:Nat):=by have:=HD.out;rw[IntWalk.i64_in _ (by omega)];omega
 have HE9:=hid e9
 clear e9 hdd
 go_enter Tryz.func109,Tryz.ntmps109
 go_upto_region 1 with fail
 rw[HW1.out,Hz.out]
 clear HW1
 refine wp_region_held_drew (S:=λW'=>CurW F q c j T ix cs (.slice (some ⟨r1,0,none⟩) T.length c1) (.slice (some ⟨r2,o2,none⟩) ix.length c2) d' at_ en W') (by kernel_rfl) HC1.out.drew (λhH=>?_)
 refine Boxed.out ?_
 refine tkV 0 5 (.pointer (some ⟨q,0,none⟩)) hH (λhH=>?_)
 try simp only[Act.put,aT,aZ,aS]
 refine tkV 1 6 (.pointer (some ⟨q,0,none⟩)) hH (λhH=>?_)
 try simp only[Act.put,aT,aZ,aS]
 refine tkV 2 7 (.pointer (some ⟨q,0,none⟩)) hH (λhH=>?_)
 try simp only[Act.put,aT,aZ,aS]
 refine tkW 3 8 (.pointer (some ⟨c,0,none⟩)) hH (λw hSw=>?_) (λhH=>?_)
 ·have p:=hSw.c0
  unfold runsTo
  go_simp
 try simp only[Act.put,aT,aZ,aS]
 refine tkV 4 9 (.pointer (some ⟨c,0,none⟩)) hH (λhH=>?_)
 try simp only[Act.put,aT,aZ,aS]
 refine tkV 5 10 (.pointer (some ⟨c,0,none⟩)) hH (λhH=>?_)
 try simp only[Act.put,aT,aZ,aS]
 refine tkW 6 11 (.slice (some ⟨r1,0,none⟩) N c1) hH (λw hSw=>?_) (λhH=>?_)
 ·have p:=hSw.r.st
  rw[HT.out]at p
  unfold runsTo
  go_simp
 try simp only[Act.put,aT,aZ,aS]
 refine tkV 7 12 (.pointer (some ⟨q,0,none⟩)) hH (λhH=>?_)
 try simp only[Act.put,aT,aZ,aS]
 refine tkV 8 13 (.pointer (some ⟨q,0,none⟩)) hH (λhH=>?_)
 try simp only[Act.put,aT,aZ,aS]
 refine tkV 9 14 (.pointer (some ⟨q,4,none⟩)) hH (λhH=>?_)
 try simp only[Act.put,aT,aZ,aS]
 refine tkW 10 15 (.slice (some ⟨r2,o2,none⟩) M c2) hH (λw hSw=>?_) (λhH=>?_)
 ·have p:=hSw.c4
  rw[HM.out]at p
  unfold runsTo
  go_simp
 try simp only[Act.put,aT,aZ,aS]
 refine tkV 11 16 (.int .i64 (n:Nat)) hH (λhH=>?_)
 try simp only[Act.put,aT,aZ,aS]
 refine tkW 12 17 (.pointer (some ⟨r2,o2+n,none⟩)) hH (λw hSw=>?_) (λhH=>?_)
 ·exact val_of (idx_num r2 o2 M c2 n HN.out w)
 try simp only[Act.put,aT,aZ,aS]
 refine tkW 13 18 (.int .i64 (k:Nat)) hH (λw hSw=>?_) (λhH=>?_)
 ·have p:=(HW.out w hSw.r).1
  unfold runsTo
  go_simp
 try simp only[Act.put,aT,aZ,aS]
 refine tkV 14 19 (.pointer (some ⟨q,0,none⟩)) hH (λhH=>?_)
 try simp only[Act.put,aT,aZ,aS]
 refine tkV 15 20 (.pointer (some ⟨q,0,none⟩)) hH (λhH=>?_)
 try simp only[Act.put,aT,aZ,aS]
 refine tkV 16 21 (.pointer (some ⟨q,0,none⟩)) hH (λhH=>?_)
 try simp only[Act.put,aT,aZ,aS]
 refine tkV 17 22 (.pointer (some ⟨q,5,none⟩)) hH (λhH=>?_)
 try simp only[Act.put,aT,aZ,aS]
 refine tkW 18 23 (.int .i64 (d':Nat)) hH (λw hSw=>?_) (λhH=>?_)
 ·have p:=hSw.c5
  unfold runsTo
  go_simp
 try simp only[Act.put,aT,aZ,aS]
 refine tkW 19 24 (.int .i64 (d:Nat)) hH (λw hSw=>?_) (λhH=>?_)
 ·have p:=HE9.out
  unfold runsTo
  go_simp
 try simp only[Act.put,aT,aZ,aS]
 refine tkV 20 25 (.pointer (some ⟨q,0,none⟩)) hH (λhH=>?_)
 try simp only[Act.put,aT,aZ,aS]
 refine tkV 21 26 (.pointer (some ⟨q,1,none⟩)) hH (λhH=>?_)
 try simp only[Act.put,aT,aZ,aS]
 refine tkW 22 27 (.pointer (some ⟨q,1+d,none⟩)) hH (λw hSw=>?_) (λhH=>?_)
 ·exact val_of (idx_way q d HD.out w)
 try simp only[Act.put,aT,aZ,aS]
 refine tkW 23 28 (.int .i64 (p:Nat)) hH (λw hSw=>?_) (λhH=>?_)
 ·have p9:=hSw.cw HD.out
  rw[HP.out]at p9
  unfold runsTo
  go_simp
 try simp only[Act.put,aT,aZ,aS]
 refine tkW 24 29 (.pointer (some ⟨r1,k*18,none⟩)) hH (λw hSw=>?_) (λhH=>?_)
 ·exact val_of (idx_row r1 N c1 k HK.out w)
 try simp only[Act.put,aT,aZ,aS]
 refine tkW 25 30 (.pointer (some ⟨r1,k*18+p*6,none⟩)) hH (λw hSw=>?_) (λhH=>?_)
 ·exact val_of (idx_parto r1 (k*18) p HWL.out w)
 try simp only[Act.put,aT,aZ,aS]
 refine tkW 26 31 (.agg u) hH (λw hSw=>?_) (λhH=>?_)
 ·have q9:=run_loadAt_mid (P:=Tryz.prog) w r1 (k*18+p*6) 39 u.toList _ (HR.out w hSw) Tryz.underlying39 rfl (by rw[Array.length_toList];exact I6.out)
  rw[Array.toArray_toList]at q9
  exact val_of q9
 try simp only[Act.put,aT,aZ,aS]
 refine tkC 27 (λK hK=>?_)
 change Oper.wp _ _ _ _ _ _
 refine st_rowW 39 _ _ rfl z _ u 39 rfl rfl HX1.out Z6.out I6.out ON6.out (λw2 hw2 ht2=>?_)
 have HX2:=hid hw2
 have HB2:=hid (show Below w.heap.size w w2 from HB1.out.trans ⟨ht2.os,ht2.tape,ht2.output,ht2.size,λk hk=>ht2.block k (Nat.lt_of_lt_of_le hk HB1.out.size) (by rw[←Hz.out];omega)⟩)
 refine hK.out _ _ (HC1.out.drew.turn ht2 HZF.out.1 HZF.out.2) (λhH=>?_)
 clear hK K hw2 ht2
 refine⟨wpAnyH_done (by kernel_rfl) ?_ _⟩
 clear hH
 go_wp2_with fail
 refine bodyPost_ret (v:=.agg u) (results_row Tryz.results109 (g:=z) rfl HX2.out _ Tryz.underlying39 rfl I6.out) rfl (HE.out _ HB2.out)
end Go.Proofs.YtefhfadjajcmkaaGreatDoor
