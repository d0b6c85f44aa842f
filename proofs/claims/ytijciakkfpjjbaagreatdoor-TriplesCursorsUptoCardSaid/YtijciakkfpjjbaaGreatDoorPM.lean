/- Which orders there are: printed by gen_YR.py. -/
import Derived.Test.YtijciakkfpjjbaaGreatDoorPL
set_option linter.unusedSimpArgs false
namespace Go.Proofs.YtijciakkfpjjbaaGreatDoor
open Go Go.RowKit Go.Maps
open Go.Lib (hid cell_of_heap)
theorem wp_val {P:Program} {op:Oper} {a:Act} {w:World} {K:Act→World→Prop} {Q:Exit→Act→World→Prop} (v:Value) (hv:(execOp a.eval op).run P w = .ok (.value v) w) (h:K (a.put op.dst v) w):op.wp P a w K Q:=by
 unfold Oper.wp
 rw[hv]
 exact h
theorem wp_bsV {op:Oper} {a:Act} {K:Act→World→Prop} {Q:Exit→Act→World→Prop} {w:World} (x:Operand) (ho:op.op = .buildSlice 32 1 #[(0,x)]) {c:Array Value} (hx:a.eval x = .agg c) (hc:c.size=6) (h:K (a.put op.dst (.slice (some ⟨w.heap.size,0,none⟩) 1 1)) (w.alloc (.cells c 34))):op.wp Tryz.prog a w K Q:=by
 unfold Oper.wp execOp
 simp only[ho,List.map_toArray,List.map_cons,List.map_nil,hx,Sem.run_bind,Sem.run_pure,bsv_run c hc w,Result.andThen_ok]
 exact h
set_option maxRecDepth 100000 in
set_option maxHeartbeats 8000000 in
theorem nextR_any {F:Nat→Prop} {q j:Nat} {T:List Trip} {c:CurA} {w:World} (h:RcRd F w q j T c) (hH:RcH T j) (hd:c.way.length≤3) :
    Calls Tryz.prog 24 #[.pointer (some ⟨q,0,none⟩)] w (RcDo F q j T (nextA T (wayN j) c) w):=by
 have HRD:=hid h
 obtain⟨A,nT,cA,W,h⟩:=h
 have HR:=hid h
 have HD:=hid hd
 have HH:=hid hH
 obtain⟨r,Hr⟩:=name_itV (nextA T (wayN j) c)
 rw[Hr.out]
 have f4:=HR.out.f4
 have f3:=HR.out.f3
 obtain⟨d,Hd⟩:=name_itV c.way.length
 obtain⟨fn,Hfn⟩:=name_itV c.fin
 rw[Hd.out]at f4
 rw[Hfn.out]at f3
 clear h hd hH
 go_enter Tryz.func24,Tryz.ntmps24
 by_cases hd0:d=0
 ·have HE:=hid (show r=(c,false) from by rw[←Hr.out];exact next_none (.inr (by rw[Hd.out];exact hd0)))
  subst hd0
  go_wp2_with fail
  go_ret
  exact⟨congrArg (λb=>Ending.returned (Value.bool b)) (show false=r.2 from by rw[HE.out]),by rw[HE.out];exact HRD.out,Turn.refl _ _⟩
 ·have e0:¬(d:Int)=0:=by omega
  cases fn with
  | true=>
   have HE:=hid (show r=(c,false) from by rw[←Hr.out];exact next_none (.inl Hfn.out))
   go_wp2_with fail
   go_ret
   exact⟨congrArg (λb=>Ending.returned (Value.bool b)) (show false=r.2 from by rw[HE.out]),by rw[HE.out];exact HRD.out,Turn.refl _ _⟩
  | false=>
   obtain⟨wy,cur,fe⟩:=cur_form (c:=c) (by rw[Hd.out];exact hd0)
   rw[Hfn.out]at fe
   subst fe
   obtain⟨d1,Hd1⟩:=name_itV wy.length
   have HDD:=hid (show d=d1+1 from by rw[←Hd.out,←Hd1.out];simp)
   have HD3:=hid (show d≤3 from by rw[←Hd.out];exact HD.out)
   have HWD:=hid (show IntKind.i64.wrap ((d:Int)-1)=(d1:Int) from by have h2:d=d1+1:=HDD.out;have:=HD3.out;rw[IntWalk.i64_in _ (by omega)];omega)
   obtain⟨gw,cw,eW,hcw⟩:=row_head HR.out.way (by show 0<(wy++[cur]).length;simp)
   rw[show (CurA.mk (wy++[cur]) false).way.length=d from Hd.out]at eW hcw
   subst eW
   have hcur:(wy++[cur])[d1]?=some cur:=by rw[←Hd1.out,List.getElem?_append_right (Nat.le_refl _),Nat.sub_self];rfl
   obtain⟨adw,cv,eA,hlw,hcv,hqw⟩:=POwn.cell cellV_plain (show POwn 34 6 CV w (wy++[cur]) (.slice (some ⟨gw,0,none⟩) d cw) from HR.out.way) Hd.out hcur
   injection eA with eA
   subst eA
   have IV:=hid (infoV6.trans (congrArg some (CellV.size hcv).symm))
   have HQW:=hid hqw
   have HKD:=hid (show d1<d from by have h2:d=d1+1:=HDD.out;omega)
   have hto:=λ(V:World) (hb:Below w.heap.size w V)=>(show Calls Tryz.prog 61 #[.pointer (some ⟨q,0,none⟩),.bool true,.agg cv] V (RcDo F q j T r V) from by
    obtain⟨kc,Ac,cc,e⟩:=hcv
    rw[e,←Hr.out,nextA_at]
    exact toR_any (HRD.out.on hb) HH.out HD.out true cur _ kc.fit)
   unfold RcDo at hto
   have HTO:=hid hto
   have HF2:=hid (show w.cell? ⟨q,2,none⟩=some (.slice (some ⟨gw,0,none⟩) d cw) from HR.out.f2)
   have HF4:=hid (show w.cell? ⟨q,4,none⟩=some (.int .i64 (d:Nat)) from f4)
   clear hlw hcv hqw hcur hcw hd0 hto
   go_upto_region 3 with fail
   clear f3 f4
   have p2:w.cell? ⟨q,2,none⟩=some (.slice (some ⟨gw,0,none⟩) d cw):=HF2.out
   have p4:w.cell? ⟨q,4,none⟩=some (.int .i64 (d:Nat)):=HF4.out
   refine wp_region_held_drew (S:=λ_=>True) (by kernel_rfl) trivial (λhHeld=>?_)
   refine Boxed.out ?_
   refine tkW 0 14 (.pointer (some ⟨q,0,none⟩)) hHeld (λw hSw=>?_) (λhHeld=>?_)
   ·unfold runsTo
    go_simp
   try simp only[Act.put,aT,aZ,aS]
   refine tkW 1 15 (.pointer (some ⟨q,0,none⟩)) hHeld (λw hSw=>?_) (λhHeld=>?_)
   ·unfold runsTo
    go_simp
   try simp only[Act.put,aT,aZ,aS]
   refine tkW 2 16 (.pointer (some ⟨q,0,none⟩)) hHeld (λw hSw=>?_) (λhHeld=>?_)
   ·unfold runsTo
    go_simp
   try simp only[Act.put,aT,aZ,aS]
   refine tkW 3 17 (.pointer (some ⟨q,2,none⟩)) hHeld (λw hSw=>?_) (λhHeld=>?_)
   ·unfold runsTo
    go_simp
   try simp only[Act.put,aT,aZ,aS]
   refine tkW 5 19 (.pointer (some ⟨q,0,none⟩)) hHeld (λw hSw=>?_) (λhHeld=>?_)
   ·unfold runsTo
    go_simp
   try simp only[Act.put,aT,aZ,aS]
   refine tkW 6 20 (.pointer (some ⟨q,0,none⟩)) hHeld (λw hSw=>?_) (λhHeld=>?_)
   ·unfold runsTo
    go_simp
   try simp only[Act.put,aT,aZ,aS]
   refine tkW 7 21 (.pointer (some ⟨q,4,none⟩)) hHeld (λw hSw=>?_) (λhHeld=>?_)
   ·unfold runsTo
    go_simp
   try simp only[Act.put,aT,aZ,aS]
   refine take_two 4 8 (by kernel_rfl) (by rfl) (by rfl) (λK hK=>?_) (λK hK=>?_)
   ·skip
    unfold wpAt
    go_simp
    refine hK.out _ _ hHeld (λhHeld=>?_)
    clear hK K
    try simp only[Act.put,aT,aZ,aS]
    refine tkC 8 (λK hK=>?_)
    unfold wpAt
    go_simp
    refine hK.out _ _ hHeld (λhHeld=>?_)
    clear hK K
    try simp only[Act.put,aT,aZ,aS]
    refine tkW 9 23 (.int .i64 (d1:Nat)) hHeld (λw hSw=>?_) (λhHeld=>?_)
    ·have p:=HWD.out
     unfold runsTo
     go_simp
    try simp only[Act.put,aT,aZ,aS]
    refine tkW 10 24 (.pointer (some ((⟨gw,0,none⟩:Addr).add (d1*6)))) hHeld (λw hSw=>?_) (λhHeld=>?_)
    ·exact val_of (idx_val ⟨gw,0,none⟩ d cw d1 HKD.out w)
    try simp only[Act.put,aT,aZ,aS]
    refine tkC 11 (λK hK=>?_)
    change Oper.wp _ ⟨some 25,_,_,_,_,_⟩ _ _ _ _
    refine wp_val (.agg cv) (val_of (by simp only[Instr.loadAt,Instr.sureAddr,Sem.run_bind];exact run_loadVar_at _ ((⟨gw,0,none⟩:Addr).add (d1*6)) 34 cv _ HQW.out Tryz.underlying34 rfl IV.out)) ?_
    refine hK.out _ _ hHeld (λhHeld=>?_)
    clear hK K
    try simp only[Act.put,aT,aZ,aS]
    refine tkC 12 (λK hK=>?_)
    change Oper.wp _ ⟨some 26,_,_,_,_,_⟩ _ _ _ _
    go_simp
    refine (HTO.out _ (Below.refl _ _).drew).mono ?_
    rintro e x ⟨rfl,hr,ht⟩
    have HRX:=hid hr
    have HTX:=hid (show Turn (λb=>q≤b) w x from (Turn.refl (λb=>q≤b) w).drew.trans ht)
    clear hr ht
    dsimp only
    refine hK.out _ _ hHeld (λhHeld=>?_)
    clear hK K
    try simp only[Act.put,aT,aZ,aS]
    refine tkW 13 2 (.bool r.2) hHeld (λw hSw=>?_) (λhHeld=>?_)
    ·unfold runsTo
     go_simp
    try simp only[Act.put,aT,aZ,aS]
    refine⟨wpAnyH_done (by kernel_rfl) ?_ _⟩
    clear hHeld
    go_wp2_with fail
    go_ret
    exact⟨rfl,HRX.out,HTX.out⟩
   ·skip
    unfold wpAt
    go_simp
    refine hK.out _ _ hHeld (λhHeld=>?_)
    clear hK K
    try simp only[Act.put,aT,aZ,aS]
    refine tkW 9 23 (.int .i64 (d1:Nat)) hHeld (λw hSw=>?_) (λhHeld=>?_)
    ·have p:=HWD.out
     unfold runsTo
     go_simp
    try simp only[Act.put,aT,aZ,aS]
    refine tkC 4 (λK hK=>?_)
    unfold wpAt
    go_simp
    refine hK.out _ _ hHeld (λhHeld=>?_)
    clear hK K
    try simp only[Act.put,aT,aZ,aS]
    refine tkW 10 24 (.pointer (some ((⟨gw,0,none⟩:Addr).add (d1*6)))) hHeld (λw hSw=>?_) (λhHeld=>?_)
    ·exact val_of (idx_val ⟨gw,0,none⟩ d cw d1 HKD.out w)
    try simp only[Act.put,aT,aZ,aS]
    refine tkC 11 (λK hK=>?_)
    change Oper.wp _ ⟨some 25,_,_,_,_,_⟩ _ _ _ _
    refine wp_val (.agg cv) (val_of (by simp only[Instr.loadAt,Instr.sureAddr,Sem.run_bind];exact run_loadVar_at _ ((⟨gw,0,none⟩:Addr).add (d1*6)) 34 cv _ HQW.out Tryz.underlying34 rfl IV.out)) ?_
    refine hK.out _ _ hHeld (λhHeld=>?_)
    clear hK K
    try simp only[Act.put,aT,aZ,aS]
    refine tkC 12 (λK hK=>?_)
    change Oper.wp _ ⟨some 26,_,_,_,_,_⟩ _ _ _ _
    go_simp
    refine (HTO.out _ (Below.refl _ _).drew).mono ?_
    rintro e x ⟨rfl,hr,ht⟩
    have HRX:=hid hr
    have HTX:=hid (show Turn (λb=>q≤b) w x from (Turn.refl (λb=>q≤b) w).drew.trans ht)
    clear hr ht
    dsimp only
    refine hK.out _ _ hHeld (λhHeld=>?_)
    clear hK K
    try simp only[Act.put,aT,aZ,aS]
    refine tkW 13 2 (.bool r.2) hHeld (λw hSw=>?_) (λhHeld=>?_)
    ·unfold runsTo
     go_simp
    try simp only[Act.put,aT,aZ,aS]
    refine⟨wpAnyH_done (by kernel_rfl) ?_ _⟩
    clear hHeld
    go_wp2_with fail
    go_ret
    exact⟨rfl,HRX.out,HTX.out⟩
set_option maxRecDepth 100000 in
set_option maxHeartbeats 16000000 in
theorem openR_any {F:Nat→Prop} {q j:Nat} {T:List Trip} {c:CurA} {w:World} (h:RcRd F w q j T c) (hH:RcH T j) (hd:c.way.length≤3) :
    Calls Tryz.prog 22 #[.pointer (some ⟨q,0,none⟩)] w (RcDo F q j T (openA T (wayN j) c) w):=by
 have HRD:=hid h
 obtain⟨A,nT,cA,W,h⟩:=h
 have HR:=hid h
 have HD:=hid hd
 have HH:=hid hH
 have HNT:=hid (show nT≤65536 from by rw[h.list.1];exact hH.len)
 obtain⟨r,Hr⟩:=name_itV (openA T (wayN j) c)
 rw[Hr.out]
 have f4:=HR.out.f4
 have f3:=HR.out.f3
 obtain⟨d,Hd⟩:=name_itV c.way.length
 obtain⟨fn,Hfn⟩:=name_itV c.fin
 rw[Hd.out]at f4
 rw[Hfn.out]at f3
 clear h hd hH
 go_enter Tryz.func22,Tryz.ntmps22
 by_cases hd3:d=3
 ·have HE:=hid (show r=(c,false) from by rw[←Hr.out];unfold openA;rw[if_pos (.inl (by rw[Hd.out];exact hd3))])
  subst hd3
  go_wp2_with fail
  go_ret
  exact⟨congrArg (λb=>Ending.returned (Value.bool b)) (show false=r.2 from by rw[HE.out]),by rw[HE.out];exact HRD.out,Turn.refl _ _⟩
 ·have e0:¬(d:Int)=3:=by omega
  cases fn with
  | true=>
   have HE:=hid (show r=(c,false) from by rw[←Hr.out];unfold openA;rw[if_pos (.inr Hfn.out)])
   go_wp2_with fail
   go_ret
   exact⟨congrArg (λb=>Ending.returned (Value.bool b)) (show false=r.2 from by rw[HE.out]),by rw[HE.out];exact HRD.out,Turn.refl _ _⟩
  | false=>
   have HD3:=hid (show d<3 from by have:=HD.out;have h2:=Hd.out;omega)
   have HOP:=hid (show r=(match keysA T (wayN j) c.way with
    | []=>(c,false)
    | x::_=>(⟨c.way++[x],false⟩,true)) from by
    rw[←Hr.out]
    unfold openA
    rw[if_neg (by rintro (h | h);exact hd3 (by rw[←Hd.out];exact h);rw[Hfn.out]at h;cases h)]
    rfl)
   have hkeys:=keysR_any HR.out HH.out.hj d HD3.out (by rw[Hd.out];exact Nat.le_refl _) HH.out.kt HNT.out
   rw[show c.way.take d=c.way from List.take_of_length_le (by rw[Hd.out];exact Nat.le_refl _)]at hkeys
   obtain⟨K,HK⟩:=name_itV (keysA T (wayN j) c.way)
   rw[HK.out]at hkeys HOP
   clear hd3
   go_wp2_with fail
   refine hkeys.mono ?_
   unfold KeysIs
   rintro e w3 ⟨S7,rfl,hld⟩
   obtain⟨m,Hm⟩:=name_itV K.length
   obtain⟨A7,c7,rfl,_,_⟩:∃A c,S7 = .slice A m c∧m≤c∧(A=none→c=0):=by
    obtain⟨A,c,e,h1,h2⟩:=hld.own.form
    rw[Hm.out]at e h1
    exact⟨A,c,e,h1,h2⟩
   have HL3:=hid hld
   have HR3:=hid (HR.out.on hld.hb)
   have HT3:=hid (show Turn (λb=>q≤b) w w3 from (Turn.of_below hld.hb).mono λb hb hb2=>by have hb2:w.heap.size≤b:=hb2;have:=blk_lt HR.out.cur;omega)
   clear hld hkeys f3 f4
   by_cases hm0:m=0
   ·have HE:=hid (show r=(c,false) from by rw[HOP.out,show K=[] from List.eq_nil_of_length_eq_zero (by rw[Hm.out];exact hm0)])
    subst hm0
    go_wp2_with fail
    go_ret
    exact⟨congrArg (λb=>Ending.returned (Value.bool b)) (show false=r.2 from by rw[HE.out]),by rw[HE.out];exact⟨A,nT,cA,W,HR3.out⟩,HT3.out⟩
   ·have hm1:¬(m:Int)=0:=by omega
    obtain⟨x,rr,hx⟩:∃x rr,K=x::rr:=by
     cases hKK:K with
     | nil=>exact absurd (by rw[←Hm.out,hKK];rfl) hm0
     | cons x rr=>exact⟨x,rr,rfl⟩
    have HE:=hid (show r=(⟨c.way++[x],false⟩,true) from by rw[HOP.out,hx])
    have HM0:=hid (show 0<m from by omega)
    obtain⟨ad7,cx,rfl,hl7,hcx,hqx⟩:=HL3.out.own.cell cellV_plain Hm.out (k:=0) (x:=x) (by rw[hx];rfl)
    have HCX:=hid hcx
    have IX:=hid (infoV6.trans (congrArg some (CellV.size hcx).symm))
    have HL7:=hid hl7
    have HQX:=hid hqx
    have HAG:=hid (show ∀b,W.ownBlock=some b→ad7.block≠b from λb hb e=>by
     have h1:=HL3.out.ow ad7.block rfl
     have h2:=HR.out.way.lt hb
     omega)
    have HAQ:=hid (show ad7.block≠q from λe=>by
     have h1:=HL3.out.ow ad7.block rfl
     have h2:=blk_lt HR.out.cur
     omega)
    have HCZ:=hid (show CellV (#[.int .i64 0,.bool false,.int .i64 0,.string ⟨#[]⟩,.string ⟨#[]⟩,.slice none 0 0]) valZ from ⟨keyV_Z,none,0,rfl⟩)
    have HIX0:=hid (λV:World=>(show (Instr.indexAt 32 (.slice (some ad7) m c7) (.int .i64 0)).run Tryz.prog V = .ok (.pointer (some (ad7.add (0*6)))) V from idx_val ad7 m c7 0 HM0.out V))
    obtain⟨i0,hif,hz0,hz1,hz2⟩:=info_parts infoVs
    have HIF:=hid hif
    have HIZ:=hid hz0
    have HIS:=hid hz1
    have HIB:=hid hz2
    have HF2:=hid HR3.out.f2
    have HF4:=hid (show w3.cell? ⟨q,4,none⟩=some (.int .i64 (d:Nat)) from by have h:=HR3.out.f4;rwa [Hd.out]at h)
    obtain⟨Aw,cw,eW,_,_⟩:=HR3.out.way.form
    rw[Hd.out]at eW
    subst eW
    clear hl7 hcx hqx hif hz0 hz1 hz2 hm0 hx
    go_upto_region 6 with fail
    clear hm1 e0
    refine wp_region_held_drew (S:=λW'=>∀y,y<cx.size→W'.cell? ((ad7.add (0*6)).add y)=cx[y]?) (by kernel_rfl) HQX.out (λhHeld=>?_)
    refine Boxed.out ?_
    refine tkW 0 24 (.pointer (some ⟨q,0,none⟩)) hHeld (λw hSw=>?_) (λhHeld=>?_)
    ·unfold runsTo
     go_simp
    try simp only[Act.put,aT,aZ,aS]
    refine tkW 1 25 (.pointer (some ⟨q,0,none⟩)) hHeld (λw hSw=>?_) (λhHeld=>?_)
    ·unfold runsTo
     go_simp
    try simp only[Act.put,aT,aZ,aS]
    refine tkW 2 26 (.pointer (some ⟨q,2,none⟩)) hHeld (λw hSw=>?_) (λhHeld=>?_)
    ·unfold runsTo
     go_simp
    try simp only[Act.put,aT,aZ,aS]
    refine tkW 4 28 (.slice (some ad7) m c7) hHeld (λw hSw=>?_) (λhHeld=>?_)
    ·unfold runsTo
     go_simp
    try simp only[Act.put,aT,aZ,aS]
    refine tkW 5 29 (.pointer (some (ad7.add (0*6)))) hHeld (λw hSw=>?_) (λhHeld=>?_)
    ·exact val_of (HIX0.out w)
    try simp only[Act.put,aT,aZ,aS]
    refine tkW 6 30 (.agg cx) hHeld (λw hSw=>?_) (λhHeld=>?_)
    ·have p:=run_loadVar_at w (ad7.add (0*6)) 34 cx _ hSw Tryz.underlying34 rfl IX.out
     exact val_of (by simp only[Instr.loadAt,Instr.sureAddr,Sem.run_bind];exact p)
    try simp only[Act.put,aT,aZ,aS]
    have HWA0:=hid (show Below w3.heap.size w3 (w3.drew.alloc (.cells #[.int .i64 0,.bool false,.int .i64 0,.string ⟨#[]⟩,.string ⟨#[]⟩,.slice none 0 0] 34)) from (Below.refl _ w3).drew.alloc (by exact Nat.le_refl _) _)
    have HSA:=hid (show ∀y,y<cx.size→(w3.drew.alloc (.cells #[.int .i64 0,.bool false,.int .i64 0,.string ⟨#[]⟩,.string ⟨#[]⟩,.slice none 0 0] 34)).cell? ((ad7.add (0*6)).add y)=cx[y]? from λy hy=>(HWA0.out.cell (p:=(ad7.add (0*6)).add y) (by rw[add_blk,add_blk];exact HL7.out)).trans (HQX.out y hy))
    refine take_two 3 8 (by kernel_rfl) (by rfl) (by rfl) (λK hK=>?_) (λK hK=>?_)
    ·skip
     change Oper.wp _ ⟨some 27,_,_,_,_,_⟩ _ _ _ _
     have p2:=(show w3.cell? ⟨q,2,none⟩=some (.slice Aw d cw) from HF2.out)
     refine wp_val (.slice Aw d cw) (val_of (by go_simp)) ?_
     refine hK.out _ _ hHeld (λhHeld=>?_)
     clear hK K p2
     try simp only[Act.put,aT,aZ,aS]
     refine tkW 7 31 (.int .i64 (d:Nat)) hHeld (λw hSw=>?_) (λhHeld=>?_)
     ·unfold runsTo
      go_simp
     try simp only[Act.put,aT,aZ,aS]
     refine tkC 8 (λK hK=>?_)
     change Oper.wp _ ⟨some 32,_,_,_,_,_⟩ _ _ _ _
     refine wp_bsV _ rfl (c:=#[.int .i64 0,.bool false,.int .i64 0,.string ⟨#[]⟩,.string ⟨#[]⟩,.slice none 0 0]) rfl rfl ?_
     refine hK.out _ _ HSA.out (λhHeld=>?_)
     clear hK K
     try simp only[Act.put,aT,aZ,aS]
     have HRA:=hid (HR3.out.on HWA0.out)
     have HONE:=hid (one_rd cellV_plain HCZ.out w3.drew 34)
     have HSZ:=hid (show (w3.drew.alloc (.cells #[.int .i64 0,.bool false,.int .i64 0,.string ⟨#[]⟩,.string ⟨#[]⟩,.slice none 0 0] 34)).heap.size=w3.heap.size+1 from by simp)
     refine tkC 9 (λK hK=>?_)
     change Oper.wp _ ⟨some 33,_,_,_,_,_⟩ _ _ _ _
     refine wp_app_P cellV_plain (.tmp 27) (.tmp 32) 32 rfl i0 _ Tryz.underlying32 HIF.out HIZ.out HIS.out HIB.out rfl (by decide) rfl HRA.out.way Hd.out rfl HONE.out (λh=>by cases h) (by have:=HD3.out;omega) (by decide) (λv9 w9 ho9 hg9 hv9=>?_)
     obtain⟨g9,c9,e9,_⟩:=row_head ho9 (by rw[List.length_append];show 0<_+1;omega)
     rw[show (c.way++[valZ]).length=d+1 from by rw[List.length_append,Hd.out];rfl]at e9
     subst e9
     have HV9:=hid (show (Value.slice Aw d cw).ownBlock=some g9∨g9=w3.heap.size+1 from by
      rcases hv9 with e | e
      ·exact .inl e.symm
      ·have h2:=HSZ.out
       have e:some g9=some (w3.drew.alloc (.cells #[.int .i64 0,.bool false,.int .i64 0,.string ⟨#[]⟩,.string ⟨#[]⟩,.slice none 0 0] 34)).heap.size:=e
       injection e with e
       exact .inr (by omega))
     have HQ9:=hid (show q<g9 from by
      have h1:=blk_lt HR3.out.cur
      rcases HV9.out with e | e
      ·exact HR3.out.ne g9 e
      ·omega)
     have HA9:=hid (show ad7.block≠g9 from λe=>by
      have h1:=HL7.out
      rcases HV9.out with e2 | e2
      ·exact HAG.out g9 e2 e
      ·omega)
     have HO9:=hid ho9
     have HT9:=hid (Turn.of_grown hg9)
     clear ho9 hg9 hv9
     have HS9:=hid (show ∀y,y<cx.size→w9.cell? ((ad7.add (0*6)).add y)=cx[y]? from λy hy=>(HT9.out.cell (p:=(ad7.add (0*6)).add y) (by rw[add_blk,add_blk];have:=HL7.out;have:=HSZ.out;omega) (λe=>by rw[add_blk,add_blk]at e;exact HAG.out _ e.symm rfl)).trans (HSA.out y hy))
     refine hK.out _ _ HS9.out (λhHeld=>?_)
     clear hK K
     try simp only[Act.put,aT,aZ,aS]
     refine tkW 10 34 (.pointer (some ((⟨g9,0,none⟩:Addr).add (d*6)))) hHeld (λw hSw=>?_) (λhHeld=>?_)
     ·exact val_of (idx_val ⟨g9,0,none⟩ (d+1) c9 d (by omega) w)
     try simp only[Act.put,aT,aZ,aS]
     refine tkW 12 35 (.pointer (some ⟨q,0,none⟩)) hHeld (λw hSw=>?_) (λhHeld=>?_)
     ·unfold runsTo
      go_simp
     try simp only[Act.put,aT,aZ,aS]
     refine tkW 13 36 (.pointer (some ⟨q,2,none⟩)) hHeld (λw hSw=>?_) (λhHeld=>?_)
     ·unfold runsTo
      go_simp
     try simp only[Act.put,aT,aZ,aS]
     have HSET:=hid (show (c.way++[valZ]).set d x=c.way++[x] from by rw[←Hd.out];simp)
     have HC9:=hid (show w9.heap[q]?=some (.cells #[.slice A nT cA,.string (wayT j),.slice Aw d cw,.bool c.fin,.int .i64 (c.way.length:Nat)] 55 (0,0)) from HT9.out.heap HRA.out.cur (λe=>by have:=HR3.out.ne q e.symm;omega))
     have HL9:=hid (show ad7.block<w9.heap.size from by have:=HL7.out;have:=HSZ.out;have:=HT9.out.size;omega)
     have HQL:=hid (show q<w9.heap.size from blk_lt HC9.out)
     refine take_two 11 14 (by kernel_rfl) (by rfl) (by rfl) (λK hK=>?_) (λK hK=>?_)
     ·change Oper.wp _ ⟨none,_,_,_,_,_⟩ _ _ _ _
      refine st_ownW cellV_plain 34 _ _ rfl (k:=d) (by first | rfl | (show Value.pointer (some ((⟨g9,0,none⟩:Addr).add (d*6)))=_;rw[Addr.add_mid,Nat.zero_add]) | (show Value.pointer (some ⟨g9,0+d*6,none⟩)=_;rw[Nat.zero_add])) rfl HO9.out (by rw[List.length_append,Hd.out];rfl) (by omega) HCX.out IX.out (λw6 hw6 ht6=>?_)
      rw[HSET.out]at hw6
      have HO6:=hid hw6
      have HT6:=hid ht6
      clear hw6 ht6
      have HS6:=hid (show ∀y,y<cx.size→w6.cell? ((ad7.add (0*6)).add y)=cx[y]? from λy hy=>(HT6.out.cell (p:=(ad7.add (0*6)).add y) (by rw[add_blk,add_blk];exact HL9.out) (λe=>by rw[add_blk,add_blk]at e;exact HA9.out e)).trans (HS9.out y hy))
      refine hK.out _ _ HS6.out (λhHeld=>?_)
      clear hK K
      try simp only[Act.put,aT,aZ,aS]
      have HC6:=hid (HT6.out.heap HC9.out (λe=>by have e:q=g9:=e;have:=HQ9.out;omega))
      have p2:w6.cell? ⟨q,2,none⟩=some (.slice Aw d cw):=cell_of_heap HC6.out 2
      have z2:w6.frozen? ⟨q,2,none⟩=false:=Lib.frozen_of_heap HC6.out 2
      refine tkC 14 (λK hK=>?_)
      unfold wpAt
      go_simp
      have HT7:=hid ((Turn.refl (λb=>b=q) w6).setCell (p:=⟨q,2,none⟩) (.inr rfl) (.slice (some ⟨g9,0,none⟩) (d+1) c9))
      have HC7:=hid (heap_setCell_same w6 q 2 _ _ (.slice (some ⟨g9,0,none⟩) (d+1) c9) HC6.out)
      refine hK.out _ _ (λy hy=>(HT7.out.cell (p:=(ad7.add (0*6)).add y) (by rw[add_blk,add_blk];exact Nat.lt_of_lt_of_le HL9.out HT6.out.size) (λe=>by rw[add_blk,add_blk]at e;exact HAQ.out e)).trans (HS6.out y hy)) (λhHeld=>?_)
      clear hK K
      try simp only[Act.put,aT,aZ,aS]
      refine⟨wpAnyH_done (by kernel_rfl) ?_ _⟩
      clear hHeld p2 z2
      obtain⟨w7,Hw7⟩:=name_itV (w6.setCell ⟨q,2,none⟩ (.slice (some ⟨g9,0,none⟩) (d+1) c9))
      rw[Hw7.out]
      rw[Hw7.out]at HT7 HC7
      have HO7:=hid (HO6.out.turn HT7.out (λb hb e=>by have e:b=q:=e;have hb:some g9=some b:=hb;injection hb with hb;have:=HQ9.out;omega))
      have HTT:=hid (show Turn (λb=>q≤b) w9 w7 from (HT6.out.mono λb _ hb=>by have hb:b=g9:=hb;have:=HQ9.out;omega).trans (turn_le HT7.out))
      have HFIN:=hid (show RcRd F (w7.setCell ⟨q,4,none⟩ (.int .i64 ((d+1:Nat):Int))) q j T ⟨c.way++[x],false⟩∧Turn (λb=>q≤b) w (w7.setCell ⟨q,4,none⟩ (.int .i64 ((d+1:Nat):Int))) from by
       have ht8:=(Turn.refl (λb=>b=q) w7).setCell (p:=⟨q,4,none⟩) (.inr rfl) (.int .i64 ((d+1:Nat):Int))
       have hA:Turn (λb=>q≤b) w3 (w3.drew.alloc (.cells #[.int .i64 0,.bool false,.int .i64 0,.string ⟨#[]⟩,.string ⟨#[]⟩,.slice none 0 0] 34)):=(Turn.of_below HWA0.out).mono λb hb hb2=>by have hb2:w3.heap.size≤b:=hb2;have:=blk_lt HR3.out.cur;omega
       have h9:Turn (λb=>q≤b) (w3.drew.alloc (.cells #[.int .i64 0,.bool false,.int .i64 0,.string ⟨#[]⟩,.string ⟨#[]⟩,.slice none 0 0] 34)) w9:=HT9.out.mono λb _ hb=>by have:=HR3.out.ne b hb.symm;omega
       have hall:=((hA.trans h9).trans HTT.out).trans (turn_le ht8)
       refine⟨⟨A,nT,cA,.slice (some ⟨g9,0,none⟩) (d+1) c9,?_,HR3.out.list.keep TrR.good (λp hp=>hall.cell (Nat.lt_trans (HR3.out.fl _ hp) (blk_lt HR3.out.cur)) (λe=>by have e:q≤p.block:=e;have:=HR3.out.fl _ hp;omega)),HO7.out.turn ht8 (λb hb e=>by have e:b=q:=e;have hb:some g9=some b:=hb;injection hb with hb;have:=HQ9.out;omega),λb hb=>by have hb:some g9=some b:=hb;injection hb with hb;have:=HQ9.out;omega,HR3.out.fl⟩,HT3.out.trans hall⟩
       have h1:=heap_setCell_same w7 q 4 _ _ (.int .i64 ((d+1:Nat):Int)) HC7.out
       rw[h1]
       have h2:(CurA.mk (c.way++[x]) false).way.length=d+1:=by show (c.way++[x]).length=d+1;rw[List.length_append,Hd.out];rfl
       rw[h2,Hfn.out]
       rfl)
      have p4:w7.cell? ⟨q,4,none⟩=some (.int .i64 (d:Nat)):=by rw[←Hd.out];exact cell_of_heap HC7.out 4
      have z4:w7.frozen? ⟨q,4,none⟩=false:=Lib.frozen_of_heap HC7.out 4
      have wd:wrap64 ((d:Int)+1)=((d+1:Nat):Int):=(IntWalk.wrap64_in _ (by have:=HD3.out;omega)).trans (by push_cast;rfl)
      go_wp2_with fail
      go_ret
      exact⟨congrArg (λb=>Ending.returned (Value.bool b)) (show true=r.2 from by rw[HE.out]),by rw[HE.out];exact HFIN.out.1,HFIN.out.2⟩
     ·skip
      have p2:w9.cell? ⟨q,2,none⟩=some (.slice Aw d cw):=cell_of_heap HC9.out 2
      have z2:w9.frozen? ⟨q,2,none⟩=false:=Lib.frozen_of_heap HC9.out 2
      unfold wpAt
      go_simp
      have HT8:=hid ((Turn.refl (λb=>b=q) w9).setCell (p:=⟨q,2,none⟩) (.inr rfl) (.slice (some ⟨g9,0,none⟩) (d+1) c9))
      have HC8:=hid (heap_setCell_same w9 q 2 _ _ (.slice (some ⟨g9,0,none⟩) (d+1) c9) HC9.out)
      have HS8:=hid (show ∀y,y<cx.size→(w9.setCell ⟨q,2,none⟩ (.slice (some ⟨g9,0,none⟩) (d+1) c9)).cell? ((ad7.add (0*6)).add y)=cx[y]? from λy hy=>(HT8.out.cell (p:=(ad7.add (0*6)).add y) (by rw[add_blk,add_blk];exact HL9.out) (λe=>by rw[add_blk,add_blk]at e;exact HAQ.out e)).trans (HS9.out y hy))
      refine hK.out _ _ HS8.out (λhHeld=>?_)
      clear hK K p2 z2
      try simp only[Act.put,aT,aZ,aS]
      obtain⟨w8,Hw8⟩:=name_itV (w9.setCell ⟨q,2,none⟩ (.slice (some ⟨g9,0,none⟩) (d+1) c9))
      rw[Hw8.out]at HT8 HC8 HS8 hHeld ⊢
      have HO8:=hid (HO9.out.turn HT8.out (λb hb e=>by have e:b=q:=e;have hb:some g9=some b:=hb;injection hb with hb;have:=HQ9.out;omega))
      refine tkC 11 (λK hK=>?_)
      change Oper.wp _ ⟨none,_,_,_,_,_⟩ _ _ _ _
      refine st_ownW cellV_plain 34 _ _ rfl (k:=d) (by first | rfl | (show Value.pointer (some ((⟨g9,0,none⟩:Addr).add (d*6)))=_;rw[Addr.add_mid,Nat.zero_add]) | (show Value.pointer (some ⟨g9,0+d*6,none⟩)=_;rw[Nat.zero_add])) rfl HO8.out (by rw[List.length_append,Hd.out];rfl) (by omega) HCX.out IX.out (λw7 hw7 ht6=>?_)
      rw[HSET.out]at hw7
      have HO7:=hid hw7
      have HT6:=hid ht6
      clear hw7 ht6
      refine hK.out _ _ (λy hy=>(HT6.out.cell (p:=(ad7.add (0*6)).add y) (by rw[add_blk,add_blk];exact Nat.lt_of_lt_of_le HL9.out HT8.out.size) (λe=>by rw[add_blk,add_blk]at e;exact HA9.out e)).trans (HS8.out y hy)) (λhHeld=>?_)
      clear hK K
      try simp only[Act.put,aT,aZ,aS]
      refine⟨wpAnyH_done (by kernel_rfl) ?_ _⟩
      clear hHeld
      have HC7:=hid (HT6.out.heap HC8.out (λe=>by have e:q=g9:=e;have:=HQ9.out;omega))
      have HTT:=hid (show Turn (λb=>q≤b) w9 w7 from (turn_le HT8.out).trans (HT6.out.mono λb _ hb=>by have hb:b=g9:=hb;have:=HQ9.out;omega))
      have HFIN:=hid (show RcRd F (w7.setCell ⟨q,4,none⟩ (.int .i64 ((d+1:Nat):Int))) q j T ⟨c.way++[x],false⟩∧Turn (λb=>q≤b) w (w7.setCell ⟨q,4,none⟩ (.int .i64 ((d+1:Nat):Int))) from by
       have ht8:=(Turn.refl (λb=>b=q) w7).setCell (p:=⟨q,4,none⟩) (.inr rfl) (.int .i64 ((d+1:Nat):Int))
       have hA:Turn (λb=>q≤b) w3 (w3.drew.alloc (.cells #[.int .i64 0,.bool false,.int .i64 0,.string ⟨#[]⟩,.string ⟨#[]⟩,.slice none 0 0] 34)):=(Turn.of_below HWA0.out).mono λb hb hb2=>by have hb2:w3.heap.size≤b:=hb2;have:=blk_lt HR3.out.cur;omega
       have h9:Turn (λb=>q≤b) (w3.drew.alloc (.cells #[.int .i64 0,.bool false,.int .i64 0,.string ⟨#[]⟩,.string ⟨#[]⟩,.slice none 0 0] 34)) w9:=HT9.out.mono λb _ hb=>by have:=HR3.out.ne b hb.symm;omega
       have hall:=((hA.trans h9).trans HTT.out).trans (turn_le ht8)
       refine⟨⟨A,nT,cA,.slice (some ⟨g9,0,none⟩) (d+1) c9,?_,HR3.out.list.keep TrR.good (λp hp=>hall.cell (Nat.lt_trans (HR3.out.fl _ hp) (blk_lt HR3.out.cur)) (λe=>by have e:q≤p.block:=e;have:=HR3.out.fl _ hp;omega)),HO7.out.turn ht8 (λb hb e=>by have e:b=q:=e;have hb:some g9=some b:=hb;injection hb with hb;have:=HQ9.out;omega),λb hb=>by have hb:some g9=some b:=hb;injection hb with hb;have:=HQ9.out;omega,HR3.out.fl⟩,HT3.out.trans hall⟩
       have h1:=heap_setCell_same w7 q 4 _ _ (.int .i64 ((d+1:Nat):Int)) HC7.out
       rw[h1]
       have h2:(CurA.mk (c.way++[x]) false).way.length=d+1:=by show (c.way++[x]).length=d+1;rw[List.length_append,Hd.out];rfl
       rw[h2,Hfn.out]
       rfl)
      have p4:w7.cell? ⟨q,4,none⟩=some (.int .i64 (d:Nat)):=by rw[←Hd.out];exact cell_of_heap HC7.out 4
      have z4:w7.frozen? ⟨q,4,none⟩=false:=Lib.frozen_of_heap HC7.out 4
      have wd:wrap64 ((d:Int)+1)=((d+1:Nat):Int):=(IntWalk.wrap64_in _ (by have:=HD3.out;omega)).trans (by push_cast;rfl)
      go_wp2_with fail
      go_ret
      exact⟨congrArg (λb=>Ending.returned (Value.bool b)) (show true=r.2 from by rw[HE.out]),by rw[HE.out];exact HFIN.out.1,HFIN.out.2⟩
    ·skip
     change Oper.wp _ ⟨some 32,_,_,_,_,_⟩ _ _ _ _
     refine wp_bsV _ rfl (c:=#[.int .i64 0,.bool false,.int .i64 0,.string ⟨#[]⟩,.string ⟨#[]⟩,.slice none 0 0]) rfl rfl ?_
     refine hK.out _ _ HSA.out (λhHeld=>?_)
     clear hK K
     try simp only[Act.put,aT,aZ,aS]
     refine tkC 3 (λK hK=>?_)
     change Oper.wp _ ⟨some 27,_,_,_,_,_⟩ _ _ _ _
     have p2:=(show (w3.alloc (.cells #[.int .i64 0,.bool false,.int .i64 0,.string ⟨#[]⟩,.string ⟨#[]⟩,.slice none 0 0] 34)).cell? ⟨q,2,none⟩=some (.slice Aw d cw) from (HR3.out.on HWA0.out).f2)
     refine wp_val (.slice Aw d cw) (val_of (by go_simp)) ?_
     refine hK.out _ _ hHeld (λhHeld=>?_)
     clear hK K p2
     try simp only[Act.put,aT,aZ,aS]
     refine tkW 7 31 (.int .i64 (d:Nat)) hHeld (λw hSw=>?_) (λhHeld=>?_)
     ·unfold runsTo
      go_simp
     try simp only[Act.put,aT,aZ,aS]
     have HRA:=hid (HR3.out.on HWA0.out)
     have HONE:=hid (one_rd cellV_plain HCZ.out w3.drew 34)
     have HSZ:=hid (show (w3.drew.alloc (.cells #[.int .i64 0,.bool false,.int .i64 0,.string ⟨#[]⟩,.string ⟨#[]⟩,.slice none 0 0] 34)).heap.size=w3.heap.size+1 from by simp)
     refine tkC 9 (λK hK=>?_)
     change Oper.wp _ ⟨some 33,_,_,_,_,_⟩ _ _ _ _
     refine wp_app_P cellV_plain (.tmp 27) (.tmp 32) 32 rfl i0 _ Tryz.underlying32 HIF.out HIZ.out HIS.out HIB.out rfl (by decide) rfl HRA.out.way Hd.out rfl HONE.out (λh=>by cases h) (by have:=HD3.out;omega) (by decide) (λv9 w9 ho9 hg9 hv9=>?_)
     obtain⟨g9,c9,e9,_⟩:=row_head ho9 (by rw[List.length_append];show 0<_+1;omega)
     rw[show (c.way++[valZ]).length=d+1 from by rw[List.length_append,Hd.out];rfl]at e9
     subst e9
     have HV9:=hid (show (Value.slice Aw d cw).ownBlock=some g9∨g9=w3.heap.size+1 from by
      rcases hv9 with e | e
      ·exact .inl e.symm
      ·have h2:=HSZ.out
       have e:some g9=some (w3.drew.alloc (.cells #[.int .i64 0,.bool false,.int .i64 0,.string ⟨#[]⟩,.string ⟨#[]⟩,.slice none 0 0] 34)).heap.size:=e
       injection e with e
       exact .inr (by omega))
     have HQ9:=hid (show q<g9 from by
      have h1:=blk_lt HR3.out.cur
      rcases HV9.out with e | e
      ·exact HR3.out.ne g9 e
      ·omega)
     have HA9:=hid (show ad7.block≠g9 from λe=>by
      have h1:=HL7.out
      rcases HV9.out with e2 | e2
      ·exact HAG.out g9 e2 e
      ·omega)
     have HO9:=hid ho9
     have HT9:=hid (Turn.of_grown hg9)
     clear ho9 hg9 hv9
     have HS9:=hid (show ∀y,y<cx.size→w9.cell? ((ad7.add (0*6)).add y)=cx[y]? from λy hy=>(HT9.out.cell (p:=(ad7.add (0*6)).add y) (by rw[add_blk,add_blk];have:=HL7.out;have:=HSZ.out;omega) (λe=>by rw[add_blk,add_blk]at e;exact HAG.out _ e.symm rfl)).trans (HSA.out y hy))
     refine hK.out _ _ HS9.out (λhHeld=>?_)
     clear hK K
     try simp only[Act.put,aT,aZ,aS]
     refine tkW 10 34 (.pointer (some ((⟨g9,0,none⟩:Addr).add (d*6)))) hHeld (λw hSw=>?_) (λhHeld=>?_)
     ·exact val_of (idx_val ⟨g9,0,none⟩ (d+1) c9 d (by omega) w)
     try simp only[Act.put,aT,aZ,aS]
     refine tkW 12 35 (.pointer (some ⟨q,0,none⟩)) hHeld (λw hSw=>?_) (λhHeld=>?_)
     ·unfold runsTo
      go_simp
     try simp only[Act.put,aT,aZ,aS]
     refine tkW 13 36 (.pointer (some ⟨q,2,none⟩)) hHeld (λw hSw=>?_) (λhHeld=>?_)
     ·unfold runsTo
      go_simp
     try simp only[Act.put,aT,aZ,aS]
     have HSET:=hid (show (c.way++[valZ]).set d x=c.way++[x] from by rw[←Hd.out];simp)
     have HC9:=hid (show w9.heap[q]?=some (.cells #[.slice A nT cA,.string (wayT j),.slice Aw d cw,.bool c.fin,.int .i64 (c.way.length:Nat)] 55 (0,0)) from HT9.out.heap HRA.out.cur (λe=>by have:=HR3.out.ne q e.symm;omega))
     have HL9:=hid (show ad7.block<w9.heap.size from by have:=HL7.out;have:=HSZ.out;have:=HT9.out.size;omega)
     have HQL:=hid (show q<w9.heap.size from blk_lt HC9.out)
     refine take_two 11 14 (by kernel_rfl) (by rfl) (by rfl) (λK hK=>?_) (λK hK=>?_)
     ·change Oper.wp _ ⟨none,_,_,_,_,_⟩ _ _ _ _
      refine st_ownW cellV_plain 34 _ _ rfl (k:=d) (by first | rfl | (show Value.pointer (some ((⟨g9,0,none⟩:Addr).add (d*6)))=_;rw[Addr.add_mid,Nat.zero_add]) | (show Value.pointer (some ⟨g9,0+d*6,none⟩)=_;rw[Nat.zero_add])) rfl HO9.out (by rw[List.length_append,Hd.out];rfl) (by omega) HCX.out IX.out (λw6 hw6 ht6=>?_)
      rw[HSET.out]at hw6
      have HO6:=hid hw6
      have HT6:=hid ht6
      clear hw6 ht6
      have HS6:=hid (show ∀y,y<cx.size→w6.cell? ((ad7.add (0*6)).add y)=cx[y]? from λy hy=>(HT6.out.cell (p:=(ad7.add (0*6)).add y) (by rw[add_blk,add_blk];exact HL9.out) (λe=>by rw[add_blk,add_blk]at e;exact HA9.out e)).trans (HS9.out y hy))
      refine hK.out _ _ HS6.out (λhHeld=>?_)
      clear hK K
      try simp only[Act.put,aT,aZ,aS]
      have HC6:=hid (HT6.out.heap HC9.out (λe=>by have e:q=g9:=e;have:=HQ9.out;omega))
      have p2:w6.cell? ⟨q,2,none⟩=some (.slice Aw d cw):=cell_of_heap HC6.out 2
      have z2:w6.frozen? ⟨q,2,none⟩=false:=Lib.frozen_of_heap HC6.out 2
      refine tkC 14 (λK hK=>?_)
      unfold wpAt
      go_simp
      have HT7:=hid ((Turn.refl (λb=>b=q) w6).setCell (p:=⟨q,2,none⟩) (.inr rfl) (.slice (some ⟨g9,0,none⟩) (d+1) c9))
      have HC7:=hid (heap_setCell_same w6 q 2 _ _ (.slice (some ⟨g9,0,none⟩) (d+1) c9) HC6.out)
      refine hK.out _ _ (λy hy=>(HT7.out.cell (p:=(ad7.add (0*6)).add y) (by rw[add_blk,add_blk];exact Nat.lt_of_lt_of_le HL9.out HT6.out.size) (λe=>by rw[add_blk,add_blk]at e;exact HAQ.out e)).trans (HS6.out y hy)) (λhHeld=>?_)
      clear hK K
      try simp only[Act.put,aT,aZ,aS]
      refine⟨wpAnyH_done (by kernel_rfl) ?_ _⟩
      clear hHeld p2 z2
      obtain⟨w7,Hw7⟩:=name_itV (w6.setCell ⟨q,2,none⟩ (.slice (some ⟨g9,0,none⟩) (d+1) c9))
      rw[Hw7.out]
      rw[Hw7.out]at HT7 HC7
      have HO7:=hid (HO6.out.turn HT7.out (λb hb e=>by have e:b=q:=e;have hb:some g9=some b:=hb;injection hb with hb;have:=HQ9.out;omega))
      have HTT:=hid (show Turn (λb=>q≤b) w9 w7 from (HT6.out.mono λb _ hb=>by have hb:b=g9:=hb;have:=HQ9.out;omega).trans (turn_le HT7.out))
      have HFIN:=hid (show RcRd F (w7.setCell ⟨q,4,none⟩ (.int .i64 ((d+1:Nat):Int))) q j T ⟨c.way++[x],false⟩∧Turn (λb=>q≤b) w (w7.setCell ⟨q,4,none⟩ (.int .i64 ((d+1:Nat):Int))) from by
       have ht8:=(Turn.refl (λb=>b=q) w7).setCell (p:=⟨q,4,none⟩) (.inr rfl) (.int .i64 ((d+1:Nat):Int))
       have hA:Turn (λb=>q≤b) w3 (w3.drew.alloc (.cells #[.int .i64 0,.bool false,.int .i64 0,.string ⟨#[]⟩,.string ⟨#[]⟩,.slice none 0 0] 34)):=(Turn.of_below HWA0.out).mono λb hb hb2=>by have hb2:w3.heap.size≤b:=hb2;have:=blk_lt HR3.out.cur;omega
       have h9:Turn (λb=>q≤b) (w3.drew.alloc (.cells #[.int .i64 0,.bool false,.int .i64 0,.string ⟨#[]⟩,.string ⟨#[]⟩,.slice none 0 0] 34)) w9:=HT9.out.mono λb _ hb=>by have:=HR3.out.ne b hb.symm;omega
       have hall:=((hA.trans h9).trans HTT.out).trans (turn_le ht8)
       refine⟨⟨A,nT,cA,.slice (some ⟨g9,0,none⟩) (d+1) c9,?_,HR3.out.list.keep TrR.good (λp hp=>hall.cell (Nat.lt_trans (HR3.out.fl _ hp) (blk_lt HR3.out.cur)) (λe=>by have e:q≤p.block:=e;have:=HR3.out.fl _ hp;omega)),HO7.out.turn ht8 (λb hb e=>by have e:b=q:=e;have hb:some g9=some b:=hb;injection hb with hb;have:=HQ9.out;omega),λb hb=>by have hb:some g9=some b:=hb;injection hb with hb;have:=HQ9.out;omega,HR3.out.fl⟩,HT3.out.trans hall⟩
       have h1:=heap_setCell_same w7 q 4 _ _ (.int .i64 ((d+1:Nat):Int)) HC7.out
       rw[h1]
       have h2:(CurA.mk (c.way++[x]) false).way.length=d+1:=by show (c.way++[x]).length=d+1;rw[List.length_append,Hd.out];rfl
       rw[h2,Hfn.out]
       rfl)
      have p4:w7.cell? ⟨q,4,none⟩=some (.int .i64 (d:Nat)):=by rw[←Hd.out];exact cell_of_heap HC7.out 4
      have z4:w7.frozen? ⟨q,4,none⟩=false:=Lib.frozen_of_heap HC7.out 4
      have wd:wrap64 ((d:Int)+1)=((d+1:Nat):Int):=(IntWalk.wrap64_in _ (by have:=HD3.out;omega)).trans (by push_cast;rfl)
      go_wp2_with fail
      go_ret
      exact⟨congrArg (λb=>Ending.returned (Value.bool b)) (show true=r.2 from by rw[HE.out]),by rw[HE.out];exact HFIN.out.1,HFIN.out.2⟩
     ·skip
      have p2:w9.cell? ⟨q,2,none⟩=some (.slice Aw d cw):=cell_of_heap HC9.out 2
      have z2:w9.frozen? ⟨q,2,none⟩=false:=Lib.frozen_of_heap HC9.out 2
      unfold wpAt
      go_simp
      have HT8:=hid ((Turn.refl (λb=>b=q) w9).setCell (p:=⟨q,2,none⟩) (.inr rfl) (.slice (some ⟨g9,0,none⟩) (d+1) c9))
      have HC8:=hid (heap_setCell_same w9 q 2 _ _ (.slice (some ⟨g9,0,none⟩) (d+1) c9) HC9.out)
      have HS8:=hid (show ∀y,y<cx.size→(w9.setCell ⟨q,2,none⟩ (.slice (some ⟨g9,0,none⟩) (d+1) c9)).cell? ((ad7.add (0*6)).add y)=cx[y]? from λy hy=>(HT8.out.cell (p:=(ad7.add (0*6)).add y) (by rw[add_blk,add_blk];exact HL9.out) (λe=>by rw[add_blk,add_blk]at e;exact HAQ.out e)).trans (HS9.out y hy))
      refine hK.out _ _ HS8.out (λhHeld=>?_)
      clear hK K p2 z2
      try simp only[Act.put,aT,aZ,aS]
      obtain⟨w8,Hw8⟩:=name_itV (w9.setCell ⟨q,2,none⟩ (.slice (some ⟨g9,0,none⟩) (d+1) c9))
      rw[Hw8.out]at HT8 HC8 HS8 hHeld ⊢
      have HO8:=hid (HO9.out.turn HT8.out (λb hb e=>by have e:b=q:=e;have hb:some g9=some b:=hb;injection hb with hb;have:=HQ9.out;omega))
      refine tkC 11 (λK hK=>?_)
      change Oper.wp _ ⟨none,_,_,_,_,_⟩ _ _ _ _
      refine st_ownW cellV_plain 34 _ _ rfl (k:=d) (by first | rfl | (show Value.pointer (some ((⟨g9,0,none⟩:Addr).add (d*6)))=_;rw[Addr.add_mid,Nat.zero_add]) | (show Value.pointer (some ⟨g9,0+d*6,none⟩)=_;rw[Nat.zero_add])) rfl HO8.out (by rw[List.length_append,Hd.out];rfl) (by omega) HCX.out IX.out (λw7 hw7 ht6=>?_)
      rw[HSET.out]at hw7
      have HO7:=hid hw7
      have HT6:=hid ht6
      clear hw7 ht6
      refine hK.out _ _ (λy hy=>(HT6.out.cell (p:=(ad7.add (0*6)).add y) (by rw[add_blk,add_blk];exact Nat.lt_of_lt_of_le HL9.out HT8.out.size) (λe=>by rw[add_blk,add_blk]at e;exact HA9.out e)).trans (HS8.out y hy)) (λhHeld=>?_)
      clear hK K
      try simp only[Act.put,aT,aZ,aS]
      refine⟨wpAnyH_done (by kernel_rfl) ?_ _⟩
      clear hHeld
      have HC7:=hid (HT6.out.heap HC8.out (λe=>by have e:q=g9:=e;have:=HQ9.out;omega))
      have HTT:=hid (show Turn (λb=>q≤b) w9 w7 from (turn_le HT8.out).trans (HT6.out.mono λb _ hb=>by have hb:b=g9:=hb;have:=HQ9.out;omega))
      have HFIN:=hid (show RcRd F (w7.setCell ⟨q,4,none⟩ (.int .i64 ((d+1:Nat):Int))) q j T ⟨c.way++[x],false⟩∧Turn (λb=>q≤b) w (w7.setCell ⟨q,4,none⟩ (.int .i64 ((d+1:Nat):Int))) from by
       have ht8:=(Turn.refl (λb=>b=q) w7).setCell (p:=⟨q,4,none⟩) (.inr rfl) (.int .i64 ((d+1:Nat):Int))
       have hA:Turn (λb=>q≤b) w3 (w3.drew.alloc (.cells #[.int .i64 0,.bool false,.int .i64 0,.string ⟨#[]⟩,.string ⟨#[]⟩,.slice none 0 0] 34)):=(Turn.of_below HWA0.out).mono λb hb hb2=>by have hb2:w3.heap.size≤b:=hb2;have:=blk_lt HR3.out.cur;omega
       have h9:Turn (λb=>q≤b) (w3.drew.alloc (.cells #[.int .i64 0,.bool false,.int .i64 0,.string ⟨#[]⟩,.string ⟨#[]⟩,.slice none 0 0] 34)) w9:=HT9.out.mono λb _ hb=>by have:=HR3.out.ne b hb.symm;omega
       have hall:=((hA.trans h9).trans HTT.out).trans (turn_le ht8)
       refine⟨⟨A,nT,cA,.slice (some ⟨g9,0,none⟩) (d+1) c9,?_,HR3.out.list.keep TrR.good (λp hp=>hall.cell (Nat.lt_trans (HR3.out.fl _ hp) (blk_lt HR3.out.cur)) (λe=>by have e:q≤p.block:=e;have:=HR3.out.fl _ hp;omega)),HO7.out.turn ht8 (λb hb e=>by have e:b=q:=e;have hb:some g9=some b:=hb;injection hb with hb;have:=HQ9.out;omega),λb hb=>by have hb:some g9=some b:=hb;injection hb with hb;have:=HQ9.out;omega,HR3.out.fl⟩,HT3.out.trans hall⟩
       have h1:=heap_setCell_same w7 q 4 _ _ (.int .i64 ((d+1:Nat):Int)) HC7.out
       rw[h1]
       have h2:(CurA.mk (c.way++[x]) false).way.length=d+1:=by show (c.way++[x]).length=d+1;rw[List.length_append,Hd.out];rfl
       rw[h2,Hfn.out]
       rfl)
      have p4:w7.cell? ⟨q,4,none⟩=some (.int .i64 (d:Nat)):=by rw[←Hd.out];exact cell_of_heap HC7.out 4
      have z4:w7.frozen? ⟨q,4,none⟩=false:=Lib.frozen_of_heap HC7.out 4
      have wd:wrap64 ((d:Int)+1)=((d+1:Nat):Int):=(IntWalk.wrap64_in _ (by have:=HD3.out;omega)).trans (by push_cast;rfl)
      go_wp2_with fail
      go_ret
      exact⟨congrArg (λb=>Ending.returned (Value.bool b)) (show true=r.2 from by rw[HE.out]),by rw[HE.out];exact HFIN.out.1,HFIN.out.2⟩
noncomputable def ordB (s:ByteArray):Bool:=by classical exact decide (∃j,j<6∧wayT j=s)
theorem ordB_iff {s:ByteArray}:ordB s=true↔∃j,j<6∧wayT j=s:=by unfold ordB;simp
theorem ordB_no {s:ByteArray} (h:∀j,j<6→wayT j≠s):ordB s=false:=by
 cases e:ordB s with
 | false=>rfl
 | true=>
  obtain⟨j,hj,h2⟩:=ordB_iff.1 e
  exact absurd h2 (h j hj)
def IdxSIs (s:ByteArray) (w:World) (e:Ending) (w':World):Prop:=∃r:Int,e = .returned (.int .i64 r)∧decide (0≤r)=ordB s∧w=w'
set_option maxRecDepth 100000 in
set_option maxHeartbeats 4000000 in
theorem index6_any (s:ByteArray) (g:Nat) (w:World) (h:w.heap[g]?=some (.cells #[.string (wayT 0),.string (wayT 1),.string (wayT 2),.string (wayT 3),.string (wayT 4),.string (wayT 5)] 9 (0,0))):Calls Tryz.prog 59 #[.slice (some ⟨g,0,none⟩) 6 6,.string s] w (IdxSIs s w):=by
 have HO:=hid h
 clear h
 go_enter Tryz.func59,Tryz.ntmps59
 go_wp2_with fail
 go_loop [5] (λs5=>∃i:Nat,i≤6∧s5 = .int .i64 (i:Nat)∧Hid (∀m,m<i→wayT m≠s)) (λs5=>6-(intOf s5).toNat)
 case atStart=>exact⟨0,by omega,rfl,hid (λm hm=>absurd hm (by omega))⟩
 case round=>
  obtain⟨i,hi,rfl,hM⟩:=hrel
  by_cases hlt:i<6
  ·have a1:(0:Int)≤i:=by omega
   have a2:(i:Int)<6:=by omega
   have w1:IntKind.i64.wrap ((i:Int)+1)=(i:Int)+1:=IntWalk.i64_in _ (by omega)
   have hadd:(⟨g,0,none⟩:Addr).add i=⟨g,i,none⟩:=by rw[Addr.add_mid,Nat.zero_add]
   have ho6:w.cell? ⟨g,i,none⟩=some (.string (wayT i)):=order_at HO.out hlt
   have HLT:=hid hlt
   by_cases he:wayT i=s
   ·have HE:=hid (show IdxSIs s w (.returned (.int .i64 (i:Nat))) w from ⟨_,rfl,by rw[ordB_iff.2 ⟨i,hlt,he⟩,decide_eq_true (by omega)],rfl⟩)
    rw[he]at ho6
    clear he
    go_wp2_with fail
    go_ret
    exact HE.out
   ·have hne:=strV_ne he
    have HNE:=hid he
    clear he
    go_wp2_with fail
    go_round
    case rel=>exact⟨i+1,by have:=HLT.out;omega,by go_num,hid λm hm=>by
     by_cases e:m=i
     ·rw[e];exact HNE.out
     ·exact hM.out m (by omega)⟩
    case measure=>have:=HLT.out;simp[intOf];omega
  ·have a2:¬(i:Int)<6:=by omega
   have HE:=hid (show IdxSIs s w (.returned (.int .i64 (-1))) w from ⟨_,rfl,by rw[ordB_no (λj hj=>hM.out j (by omega))];rfl,rfl⟩)
   go_wp2_with fail
   go_ret
   exact HE.out
set_option maxRecDepth 100000 in
set_option maxHeartbeats 4000000 in
theorem mayOrder_any (s:ByteArray) (w:World):Calls Tryz.prog 21 #[.string s] w (ToldB (ordB s) w):=by
 obtain⟨zo,HZO⟩:=name_itV w.heap.size
 obtain⟨w3,HW3⟩:=name_itV (w.alloc (.cells #[.string (wayT 0),.string (wayT 1),.string (wayT 2),.string (wayT 3),.string (wayT 4),.string (wayT 5)] 9))
 have HB:=hid (show Below w.heap.size w w3 from by rw[←HW3.out];exact (Below.refl _ _).alloc (Nat.le_refl _) _)
 have HO3:=hid (show w3.heap[zo]?=some (.cells #[.string (wayT 0),.string (wayT 1),.string (wayT 2),.string (wayT 3),.string (wayT 4),.string (wayT 5)] 9 (0,0)) from by rw[←HW3.out,←HZO.out];exact heap_alloc_new w _)
 have HBS:=hid (show (Instr.buildSlice 28 6 #[(0,.string ⟨#[115,112,111]⟩),(1,.string ⟨#[115,111,112]⟩),(2,.string ⟨#[112,115,111]⟩),(3,.string ⟨#[112,111,115]⟩),(4,.string ⟨#[111,115,112]⟩),(5,.string ⟨#[111,112,115]⟩)]).run Tryz.prog w = .ok (.slice (some ⟨zo,0,none⟩) 6 6) w3 from by rw[←HZO.out,←HW3.out];exact bs_orders w)
 clear HW3 HZO
 go_enter Tryz.func21,Tryz.ntmps21
 go_wp2_with ((with_reducible refine at_dst (some 3) ?_);refine bs_arm rfl 28 6 _ rfl #[(0,.string ⟨#[115,112,111]⟩),(1,.string ⟨#[115,111,112]⟩),(2,.string ⟨#[112,115,111]⟩),(3,.string ⟨#[112,111,115]⟩),(4,.string ⟨#[111,115,112]⟩),(5,.string ⟨#[111,112,115]⟩)] (by kernel_rfl) (.slice (some ⟨zo,0,none⟩) 6 6) w3 HBS.out ?_)
 refine (index6_any s zo w3 HO3.out).mono ?_
 unfold IdxSIs
 rintro e w4 ⟨r,rfl,hr,rfl⟩
 have HR:=hid hr
 clear hr
 go_wp2_with fail
 go_ret
 exact⟨congrArg (λb=>Ending.returned (Value.bool b)) HR.out,HB.out⟩
def WayZ (w:World) (e:Ending) (w':World):Prop:=e = .returned (.tuple #[.agg #[.int .i64 0,.int .i64 0,.int .i64 0],.int .i64 0,.bool false])∧Below w.heap.size w w'
set_option maxRecDepth 100000 in
set_option maxHeartbeats 4000000 in
theorem way_zero (s:ByteArray) (hs:ordB s=false) (w:World):Calls Tryz.prog 42 #[.string s] w (WayZ w):=by
 have HNE:=hid (λj (hj:j<6)=>(show (s.toList==(wayT j).toList)=false from strV_ne (λe=>by
  have:=ordB_iff.2 ⟨j,hj,e.symm⟩
  rw[hs]at this
  cases this)))
 obtain⟨z,Hz⟩:=name_itV w.heap.size
 obtain⟨w1,HW1⟩:=name_itV (w.alloc (.cells #[.int .i64 0,.int .i64 0,.int .i64 0] 77))
 have HB:=hid (show Below w.heap.size w w1 from by rw[←HW1.out];exact (Below.refl _ _).alloc (Nat.le_refl _) _)
 have HX:=hid (show w1.heap[z]?=some (.cells #[.int .i64 0,.int .i64 0,.int .i64 0] 77 (0,0)) from by rw[←HW1.out,←Hz.out];exact heap_alloc_new w _)
 have HZL:=hid (show w.heap.size=z from Hz.out)
 have HI:=hid (show (Tryz.prog.info? 77).map (·.size)=some 3 from by kernel_rfl)
 have HO:=hid (show (#[.int .i64 0,.int .i64 0,.int .i64 0]:Array Value).all (·.oneCell')=true from by kernel_rfl)
 clear hs
 go_enter Tryz.func42,Tryz.ntmps42
 go_upto_region 1 with fail
 rw[HW1.out,Hz.out]
 clear HW1
 have n0:=HNE.out 0 (by omega)
 have n1:=HNE.out 1 (by omega)
 have n2:=HNE.out 2 (by omega)
 have n3:=HNE.out 3 (by omega)
 have n4:=HNE.out 4 (by omega)
 have n5:=HNE.out 5 (by omega)
 rw[show wayT 0=⟨#[115,112,111]⟩ from rfl,ByteArray.toList_eq ⟨#[115,112,111]⟩]at n0
 rw[show wayT 1=⟨#[115,111,112]⟩ from rfl,ByteArray.toList_eq ⟨#[115,111,112]⟩]at n1
 rw[show wayT 2=⟨#[112,115,111]⟩ from rfl,ByteArray.toList_eq ⟨#[112,115,111]⟩]at n2
 rw[show wayT 3=⟨#[112,111,115]⟩ from rfl,ByteArray.toList_eq ⟨#[112,111,115]⟩]at n3
 rw[show wayT 4=⟨#[111,115,112]⟩ from rfl,ByteArray.toList_eq ⟨#[111,115,112]⟩]at n4
 rw[show wayT 5=⟨#[111,112,115]⟩ from rfl,ByteArray.toList_eq ⟨#[111,112,115]⟩]at n5
 have HBD:=hid (λW:World=>(show (Instr.build 77 #[]).run Tryz.prog W = .ok (.agg #[.int .i64 0,.int .i64 0,.int .i64 0]) W from by kernel_rfl))
 go_wp2_with (first | ((with_reducible refine at_dst (some 24) ?_);refine build_arm rfl 77 #[] rfl #[] rfl (.agg #[.int .i64 0,.int .i64 0,.int .i64 0]) (HBD.out _) ?_) | ((with_reducible refine at_st 2 ?_);refine st_row rfl 77 _ _ rfl z (#[.int .i64 0,.int .i64 0,.int .i64 0]) (#[.int .i64 0,.int .i64 0,.int .i64 0]) 77 rfl rfl HX.out rfl HI.out HO.out ?_;intro w2 hw2 ht2))
 have HB2:=hid (show Below w.heap.size w w2 from below_turn HB.out ht2 (λb hb=>by have hb:b=z:=hb;have:=HZL.out;omega))
 refine bodyPost_ret (v:=.tuple #[.agg (#[.int .i64 0,.int .i64 0,.int .i64 0]),.int .i64 0,.bool false]) (results_row3 Tryz.results42 (g:=z) rfl hw2 _ Tryz.underlying77 rfl HI.out rfl rfl) rfl ⟨rfl,HB2.out⟩
set_option maxRecDepth 100000 in
set_option maxHeartbeats 4000000 in
theorem cursor_none (s:ByteArray) (hs:ordB s=false) (c:Nat) (w:World):Calls Tryz.prog 10 #[.pointer (some ⟨c,0,none⟩),.string s] w (λe w'=>e = .returned (.tuple #[.pointer none,.int .i64 1])∧Below w.heap.size w w'):=by
 have HS:=hid hs
 clear hs
 go_enter Tryz.func10,Tryz.ntmps10
 go_wp2_with fail
 refine (way_zero s HS.out _).mono ?_
 unfold WayZ
 rintro e w1 ⟨rfl,hb1⟩
 have HB1:=hid hb1
 clear hb1
 obtain⟨zq,Hzq⟩:=name_itV w1.heap.size
 obtain⟨w2,Hw2⟩:=name_itV (w1.alloc (.cells #[.int .i64 0,.int .i64 0,.int .i64 0] 77))
 have HX2:=hid (show w2.heap[zq]?=some (.cells #[.int .i64 0,.int .i64 0,.int .i64 0] 77 (0,0)) from by rw[←Hw2.out,←Hzq.out];exact heap_alloc_new w1 _)
 have HB2:=hid (show Below w.heap.size w w2 from HB1.out.trans (by rw[←Hw2.out];exact ((Below.refl _ w1).alloc (Nat.le_refl _) _).mono HB1.out.size))
 have HZL:=hid (show w.heap.size≤zq from by have:=HB1.out.size;have h2:w1.heap.size=zq:=Hzq.out;omega)
 have HI:=hid (show (Tryz.prog.info? 77).map (·.size)=some 3 from by kernel_rfl)
 have HO:=hid (show (#[.int .i64 0,.int .i64 0,.int .i64 0]:Array Value).all (·.oneCell')=true from by kernel_rfl)
 go_wp2_with ((with_reducible refine at_st 6 ?_);rw[Hw2.out,Hzq.out];refine st_row rfl 77 _ _ rfl zq (#[.int .i64 0,.int .i64 0,.int .i64 0]) (#[.int .i64 0,.int .i64 0,.int .i64 0]) 77 rfl rfl HX2.out rfl HI.out HO.out ?_;intro w3 hw3 ht3)
 have HB3:=hid (show Below w.heap.size w w3 from below_turn HB2.out ht3 (λb hb=>by have hb:b=zq:=hb;have:=HZL.out;omega))
 clear hw3 ht3
 go_wp2_with fail
 go_ret2
 exact⟨rfl,HB3.out⟩
end Go.Proofs.YtijciakkfpjjbaaGreatDoor
