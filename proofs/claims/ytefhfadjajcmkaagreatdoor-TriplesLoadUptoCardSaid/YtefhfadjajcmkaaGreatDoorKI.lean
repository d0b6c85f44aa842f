/- A store's cursor; all its triples: printed by gen_XS.py. -/
import Derived.Test.YtefhfadjajcmkaaGreatDoorKH
set_option linter.unusedVariables false
set_option linter.unusedSimpArgs false
namespace Go.Proofs.YtefhfadjajcmkaaGreatDoor
open Go Go.RowKit Go.Maps
open Go.Lib (hid cell_of_heap)
theorem CurRd.on {F:Nat→Prop} {w w':World} {q j:Nat} {T:List Trip} {c:CurA} (h:CurRd F w q j T c) (hb:Below w.heap.size w w'):CurRd F w' q j T c:=by
 obtain⟨cc,ix,cs,S,s,at_,en,hw,hn⟩:=h
 exact⟨cc,ix,cs,S,s,at_,en,hw.on hb,hn⟩
theorem CurN.stood {K:List Trip} {w:Way} {c:CurA} {at_ en:Nat→Nat} (h:CurN K w c at_ en):decide (0<c.way.length∧at_ c.way.length<en c.way.length)=(decide (0<c.way.length) && !c.fin):=by
 by_cases h0:0<c.way.length
 ·have:=h.stands h0
  cases hf:c.fin with
  | true=>
   rw[hf]at this
   rw[decide_eq_false (λh=>by have:=this.1 h.2;cases this)]
   simp
  | false=>
   rw[hf]at this
   rw[decide_eq_true ⟨h0,this.2 rfl⟩,decide_eq_true h0]
   rfl
 ·rw[decide_eq_false (λh=>h0 h.1),decide_eq_false h0]
  rfl
set_option maxRecDepth 100000 in
set_option maxHeartbeats 4000000 in
theorem next_any {F:Nat→Prop} {q j:Nat} {T:List Trip} {c:CurA} {w:World} (h:CurRd F w q j T c) (hgb:GlobB w) (hgt:GlobT w) :
    Calls Tryz.prog 41 #[.pointer (some ⟨q,0,none⟩)] w (CurDo F q j T (nextA T (wayN j) c) w):=by
 obtain⟨cc,ix,cs,S,s,at_,en,hw,hn⟩:=h
 have hst:=stands_any hw hn.d3
 rw[hn.stood]at hst
 have HN:=hid hn
 have HW:=hid hw
 have HST:=hid hst
 unfold ToldB at HST
 have HG:=hid (And.intro hgb hgt)
 clear hst hgb hgt hw hn
 by_cases hz:c.way.length=0∨c.fin=true
 ·have HF:=hid (show (decide (0<c.way.length) && !c.fin)=false from by
    rcases hz with h | h
    ·rw[h];rfl
    ·rw[h];simp)
  rw[HF.out]at HST
  have HR:=hid (λ(w':World) (hb:Below w.heap.size w w')=>(show CurDo F q j T (nextA T (wayN j) c) w (.returned (.bool false)) w' from by
   rw[next_none hz.symm]
   exact⟨rfl,CurRd.on ⟨cc,ix,cs,S,s,at_,en,HW.out,HN.out⟩ hb,(Turn.of_below hb).mono λi hi h=>absurd (show w.heap.size≤i from h) (by omega)⟩))
  clear hz
  go_enter Tryz.func41,Tryz.ntmps41
  go_wp2_with fail
  refine HST.out.mono ?_
  rintro e w1 ⟨rfl,hb1⟩
  have HB1:=hid (HR.out _ (hb1))
  clear hb1
  go_wp2_with fail
  go_ret
  exact HB1.out
 ·have hl0:0<c.way.length:=by omega
  have hf0:c.fin=false:=by
   cases hf:c.fin with
   | true=>exact absurd (.inr hf) hz
   | false=>rfl
  have HF:=hid (show (decide (0<c.way.length) && !c.fin)=true from by rw[decide_eq_true hl0,hf0];rfl)
  rw[HF.out]at HST
  obtain⟨v0,t0,hk,ht,hv⟩:=HN.out.key hl0 hf0
  obtain⟨vl,sl,hgl,hwl,hdl,hlev⟩:=HN.out.last hl0 hf0
  have HLF:=hid (And.intro hl0 hf0)
  have HKY:=hid (And.intro hk (And.intro ht hv))
  have HLV:=hid (And.intro hdl hlev)
  obtain⟨d,hd⟩:=name_itV c.way.length
  obtain⟨x,hx⟩:=name_itV (at_ d)
  obtain⟨y,hy⟩:=name_itV (en d)
  obtain⟨e,he⟩:∃e,d=e+1:=⟨d-1,by rw[hd.out]at hl0;omega⟩
  have HDE:=hid (And.intro he (show e<3 from by have:=HN.out.d3;rw[hd.out]at this;omega))
  have HXY:=hid (show x<y∧y≤ix.length from by
   have h1:=hlev.ab
   have h2:=hlev.bl
   rw[hd.out,hx.out,hy.out]at h1
   rw[hd.out,hy.out,kof_len]at h2
   exact⟨h1,h2⟩)
  have HTX:=hid (show (Kof T ix)[x]?=some t0 from by have h:=ht;rw[hd.out,hx.out]at h;exact h)
  have HPE:=hid (show e=c.way.length-1∧c.way.dropLast.length=e from by have h9:=HLV.out.1;rw[hd.out]at h9;rw[hd.out];constructor<;>omega)
  have HWD:=hid (show CurW F q cc j T ix cs S s d at_ en w from by rw[←hd.out];exact HW.out)
  have HIN:=hid (inway_of HW.out.r.ixo HW.out.r.scal)
  clear hz hl0 hf0 hk ht hv hgl hwl hdl hlev he
  go_enter Tryz.func41,Tryz.ntmps41
  go_wp2_with fail
  refine HST.out.mono ?_
  rintro e9 w1 ⟨rfl,hb1⟩
  have HB1:=hid hb1
  have HW1:=hid (HWD.out.on hb1)
  clear hb1
  have HBE:=hid (behind_any HW1.out.drew HDE.out.1 HDE.out.2 (glob_under HG.out.1 HB1.out.drew) (globT_under HG.out.2 HB1.out.drew) x y hx.out hy.out HXY.out.1 HXY.out.2 t0 HTX.out (λi i' h1 h2 h3 h4=>by
   have hl:=HLV.out.2
   rw[hd.out,hx.out,hy.out]at hl
   have:=pastF_mono HIN.out hl true (t0.get ((wayN j).get e)) i i' h1 h2 h3
   rw[HPE.out.2]at this
   exact this h4))
  have HD4:=hid (show d<4 from by have:=HDE.out;omega)
  go_upto_region 3 with fail
  refine wp_region_held_drew (S:=λW'=>W'.cell? ⟨q,5,none⟩=some (.int .i64 (d:Nat))) (by kernel_rfl) HW1.out.drew.c5 (λhH=>?_)
  refine Boxed.out ?_
  refine tkV 0 6 (.pointer (some ⟨q,0,none⟩)) hH (λhH=>?_)
  try simp only[Act.put,aT,aZ,aS]
  refine tkV 1 7 (.pointer (some ⟨q,0,none⟩)) hH (λhH=>?_)
  try simp only[Act.put,aT,aZ,aS]
  refine tkV 2 8 (.pointer (some ⟨q,0,none⟩)) hH (λhH=>?_)
  try simp only[Act.put,aT,aZ,aS]
  refine tkV 3 9 (.pointer (some ⟨q,5,none⟩)) hH (λhH=>?_)
  try simp only[Act.put,aT,aZ,aS]
  refine tkW 4 10 (.int .i64 (d:Nat)) hH (λw hSw=>?_) (λhH=>?_)
  ·have p:=hSw
   unfold runsTo
   go_simp
  try simp only[Act.put,aT,aZ,aS]
  refine tkV 5 11 (.pointer (some ⟨q,0,none⟩)) hH (λhH=>?_)
  try simp only[Act.put,aT,aZ,aS]
  refine tkV 7 13 (.pointer (some ⟨q,0,none⟩)) hH (λhH=>?_)
  try simp only[Act.put,aT,aZ,aS]
  refine tkV 8 14 (.pointer (some ⟨q,6,none⟩)) hH (λhH=>?_)
  try simp only[Act.put,aT,aZ,aS]
  refine tkC 6 (λK hK=>?_)
  change Oper.wp _ ⟨some 12,_,_,_,_,_⟩ _ _ _ _
  go_simp
  refine HBE.out.mono ?_
  rintro e9 w2 ⟨m,rfl,hm1,hm2,hm3,hm4,hb2⟩
  have HB2:=hid (show Below w.heap.size w w2 from HB1.out.trans ((below_of_dr hb2).mono HB1.out.size))
  have HW2:=hid (HWD.out.on HB2.out)
  clear hb2 HBE
  have HC':=hid (show ∃c',nextA T (wayN j) c=(c',decide (0<d∧m<y))∧c'.way.length=d∧CurN (Kof T ix) (wayN j) c' (upd at_ d m) en from by
   have hfa:=first_of (K:=Kof T ix) (p:=(wayN j).get e) (strict:=true) (v:=t0.get ((wayN j).get e)) hm1 hm2 hm3 hm4
   obtain⟨c',q1,q2,q3⟩:=HN.out.to HIN.out HLF.out.1 HLF.out.2 true (t0.get ((wayN j).get e)) (q:=m) (by rw[←HPE.out.1,hd.out,hx.out,hy.out];exact hfa)
   rw[hd.out]at q3 q2
   refine⟨c',?_,q2,q3⟩
   have h9:=q3.stood
   rw[q2,upd_same,hy.out]at h9
   rw[h9,decide_eq_true (by have:=HDE.out.1;omega),Bool.true_and]
   exact (next_to HLF.out.2 (by rw[HKY.out.1,←HKY.out.2.2,HPE.out.1])).trans q1)
  clear hm1 hm2 hm3 hm4
  dsimp only
  refine hK.out _ _ HW2.out.c5 (λhH=>?_)
  clear hK K
  try simp only[Act.put,aT,aZ,aS]
  refine tkW 9 15 (.pointer (some ⟨q,6+d*2,none⟩)) hH (λw hSw=>?_) (λhH=>?_)
  ·exact val_of (idx_lv q d HD4.out w)
  try simp only[Act.put,aT,aZ,aS]
  refine tkV 10 16 (.pointer (some ⟨q,6+d*2,none⟩)) hH (λhH=>?_)
  try simp only[Act.put,aT,aZ,aS]
  have f2:w2.frozen? ⟨q,6+d*2,none⟩=false:=Lib.frozen_of_heap HW2.out.cur _
  have g2:w2.cell? ⟨q,6+d*2,none⟩=some (.int .i64 (x:Nat)):=by rw[←hx.out];exact HW2.out.ca HD4.out
  refine tkC 11 (λK hK=>?_)
  unfold wpAt
  go_simp
  have HW3:=hid (HW2.out.setA HD4.out m)
  have HT3:=hid ((Turn.refl (λb=>b=q) w2).setCell (p:=⟨q,6+d*2,none⟩) (.inr rfl) (.int .i64 (m:Nat)))
  refine hK.out _ _ HW3.out.c5 (λhH=>?_)
  clear hK K
  try simp only[Act.put]
  refine⟨wpAnyH_done (by kernel_rfl) ?_ _⟩
  clear hH f2 g2
  obtain⟨w3,Hw3⟩:=name_itV (w2.setCell ⟨q,6+d*2,none⟩ (.int .i64 (m:Nat)))
  rw[Hw3.out]at HW3 HT3 ⊢
  clear Hw3
  obtain⟨c',hq1,hq2,hq3⟩:=HC'.out
  have hs3:=stands_any HW3.out (by have:=HD4.out;omega)
  rw[upd_same,hy.out]at hs3
  have HS3:=hid hs3
  unfold ToldB at HS3
  have HFI:=hid (λ(w':World) (hb:Below w3.heap.size w3 w')=>(show CurDo F q j T (nextA T (wayN j) c) w (.returned (.bool (decide (0<d∧m<y)))) w' from by
   rw[hq1]
   refine⟨rfl,⟨cc,ix,cs,S,s,upd at_ d m,en,by rw[hq2];exact HW3.out.on hb,hq3⟩,?_⟩
   have ht1:Turn (λb=>b=q) w w2:=(Turn.of_below HB2.out).mono λi hi h=>absurd (show w.heap.size≤i from h) (by omega)
   exact (ht1.trans HT3.out).trans ((Turn.of_below hb).mono λi hi h=>absurd (show w3.heap.size≤i from h) (by omega))))
  clear hs3 hq1 hq2 hq3
  obtain⟨bv,hbv⟩:=name_itV (decide (0<d∧m<y))
  rw[hbv.out]at HS3 HFI
  go_wp2_with fail
  refine HS3.out.mono ?_
  rintro e9 w4 ⟨rfl,hb4⟩
  have HFJ:=hid (HFI.out _ hb4)
  clear hb4 HFI HS3
  go_wp2_with fail
  go_ret
  exact HFJ.out
def valZ:Val:=.mk 0 false 0 ⟨#[]⟩ ⟨#[]⟩ []
def KeyRes (o:Option Val) (w:World) (e:Ending) (w':World):Prop:=∃A cap,e = .returned (.tuple #[.agg (cellsV (o.getD valZ) (.slice A 0 cap)),.bool o.isSome])∧Below w.heap.size w w'
theorem results_row2 {P:Program} {fn:Func} {a u:Tmp} {T T':TypeId} {w:World} (h:fn.results=#[.cell a T,.tmp u]) {tmps:Array Value} {g:Nat} (ht:tmps.getD a undef = .pointer (some ⟨g,0,none⟩)) {c:Array Value} (hw:w.heap[g]?=some (.cells c T' (0,0)))
    (d:TypeDesc) (hu:P.underlying T=some d) (hd:d.isRow=true) (hi:(P.info? T).map (·.size)=some c.size) {x:Value} (hx:tmps.getD u undef=x):(results fn tmps).run P w = .ok (.tuple #[.agg c,x]) w:=by
 have:=run_loadVar_mid (P:=P) w g 0 T c.toList d (range_row hw) hu hd (by rw[Array.length_toList];exact hi)
 rw[Array.toArray_toList]at this
 have ht':tmps[a]?.getD undef = .pointer (some ⟨g,0,none⟩):=by rw[←ht];simp
 have hx':tmps[u]?.getD undef=x:=by rw[←hx];simp
 simp[results,h,ht',asAddr,this,hx']
theorem build34 (W:World):(Instr.build 39 #[]).run Tryz.prog W = .ok (.agg (cellsV valZ (.slice none 0 0))) W:=by kernel_rfl
set_option maxRecDepth 100000 in
set_option maxHeartbeats 4000000 in
theorem keyC_any {F:Nat→Prop} {q j:Nat} {T:List Trip} {c:CurA} {w:World} (h:CurRd F w q j T c) :
    Calls Tryz.prog 40 #[.pointer (some ⟨q,0,none⟩)] w (KeyRes (keyA c) w):=by
 obtain⟨u,Hu⟩:=name6 valZ (.slice none 0 0)
 have SL:=hid (show (#[.int .i64 0,.bool false,.int .i64 0,.string ⟨#[]⟩,.string ⟨#[]⟩,.slice none 0 0]:Array Value).size=u.size from by rw[Hu.size];rfl)
 have IL:=hid (show (Tryz.prog.info? 39).map (·.size)=some (#[.int .i64 0,.bool false,.int .i64 0,.string ⟨#[]⟩,.string ⟨#[]⟩,.slice none 0 0]:Array Value).size from infoV6)
 have OL:=hid (show (#[.int .i64 0,.bool false,.int .i64 0,.string ⟨#[]⟩,.string ⟨#[]⟩,.slice none 0 0]:Array Value).all (·.oneCell')=true from by kernel_rfl)
 obtain⟨z,Hz⟩:=name_itV w.heap.size
 obtain⟨wb,HWB⟩:=name_itV (w.alloc (.cells #[.int .i64 0,.bool false,.int .i64 0,.string ⟨#[]⟩,.string ⟨#[]⟩,.slice none 0 0] 39))
 have HBZ:=hid (show Below w.heap.size w wb from by rw[←HWB.out];exact (Below.refl _ _).alloc (Nat.le_refl _) _)
 have HVZ:=hid (show wb.heap[z]?=some (.cells u 39 (0,0)) from by rw[←HWB.out,←Hz.out,←Hu.out];exact heap_alloc_new w _)
 obtain⟨cc,ix,cs,S,s,at_,en,hw,hn⟩:=h
 have hst:=λ(W:World) (hb:Below w.heap.size w W)=>stands_any (hw.on hb) hn.d3
 rw[hn.stood]at hst
 have HN:=hid hn
 have HW:=hid hw
 have HST:=hid hst
 unfold ToldB at HST
 clear hst hw hn
 by_cases hz:c.fin=true∨c.way.length=0
 ·have HF:=hid (show (decide (0<c.way.length) && !c.fin)=false from by
    rcases hz with h | h
    ·rw[h];simp
    ·rw[h];rfl)
  rw[HF.out]at HST
  have HR:=hid (λ(w':World) (hb:Below w.heap.size w w')=>(show KeyRes (keyA c) w (.returned (.tuple #[.agg (#[.int .i64 0,.bool false,.int .i64 0,.string ⟨#[]⟩,.string ⟨#[]⟩,.slice none 0 0]),.bool false])) w' from by
   rw[CurN.key_none hz]
   exact⟨none,0,rfl,hb⟩))
  clear hz
  go_enter Tryz.func40,Tryz.ntmps40
  go_upto_region 1 with fail
  rw[HWB.out,Hz.out]
  clear HWB
  go_wp2_with fail
  refine (HST.out _ HBZ.out).mono ?_
  rintro e9 w1 ⟨rfl,hb1⟩
  have HB1:=hid (HBZ.out.trans (hb1.mono HBZ.out.size))
  have HV1:=hid ((hb1.block z (blk_lt HVZ.out)).trans HVZ.out)
  clear hb1
  go_wp2_with (first
   | ((with_reducible refine at_dst (some 7) ?_);refine build_arm rfl 39 #[] rfl #[] rfl (.agg (#[.int .i64 0,.bool false,.int .i64 0,.string ⟨#[]⟩,.string ⟨#[]⟩,.slice none 0 0])) (build34 _) ?_)
   | ((with_reducible refine at_st 2 ?_);refine st_row rfl 39 _ _ rfl z u (#[.int .i64 0,.bool false,.int .i64 0,.string ⟨#[]⟩,.string ⟨#[]⟩,.slice none 0 0]) 39 rfl rfl HV1.out SL.out IL.out OL.out ?_;intro w2 hw2 ht2))
  have HB2:=hid (show Below w.heap.size w w2 from below_turn HB1.out ht2 (λb hb=>by have hb:b=z:=hb;have h2:w.heap.size=z:=Hz.out;omega))
  refine bodyPost_ret (v:=.tuple #[.agg (#[.int .i64 0,.bool false,.int .i64 0,.string ⟨#[]⟩,.string ⟨#[]⟩,.slice none 0 0]),.bool false]) (results_row2 Tryz.results40 (g:=z) rfl hw2 _ Tryz.underlying39 rfl IL.out rfl) rfl (HR.out _ HB2.out)
 ·have hl0:0<c.way.length:=by omega
  have hf0:c.fin=false:=by
   cases hf:c.fin with
   | true=>exact absurd (.inl hf) hz
   | false=>rfl
  have HF:=hid (show (decide (0<c.way.length) && !c.fin)=true from by rw[decide_eq_true hl0,hf0];rfl)
  rw[HF.out]at HST
  obtain⟨v0,t0,hk,ht,hv⟩:=HN.out.key hl0 hf0
  obtain⟨d,hd⟩:=name_itV c.way.length
  obtain⟨x,hx⟩:=name_itV (at_ d)
  obtain⟨e,he⟩:∃e,d=e+1:=⟨d-1,by rw[hd.out]at hl0;omega⟩
  have HDE:=hid (And.intro he (show e<3 from by have:=HN.out.d3;rw[hd.out]at this;omega))
  have HTX:=hid (show (Kof T ix)[x]?=some t0 from by have h:=ht;rw[hd.out,hx.out]at h;exact h)
  have HXL:=hid (show x<ix.length from by have:=(List.getElem?_eq_some_iff.1 HTX.out).1;rwa [kof_len]at this)
  have HWD:=hid (show CurW F q cc j T ix cs S s d at_ en w from by rw[←hd.out];exact HW.out)
  have HKV:=hid (show keyA c=some (t0.get ((wayN j).get e)) from by rw[hk,←hv,hd.out,show d-1=e by omega])
  clear hz hl0 hf0 hk ht hv he
  go_enter Tryz.func40,Tryz.ntmps40
  go_upto_region 1 with fail
  rw[HWB.out,Hz.out]
  clear HWB
  go_wp2_with fail
  refine (HST.out _ HBZ.out).mono ?_
  rintro e9 w1 ⟨rfl,hb1⟩
  have HB1:=hid (HBZ.out.trans (hb1.mono HBZ.out.size))
  have HV1:=hid ((hb1.block z (blk_lt HVZ.out)).trans HVZ.out)
  have HW1:=hid (HWD.out.on HB1.out)
  clear hb1
  have HD4:=hid (show d<4 from by have:=HDE.out;omega)
  have CX:=hid (λ(W:World) (h:CurW F q cc j T ix cs S s d at_ en W)=>(show W.cell? ⟨q,6+d*2,none⟩=some (.int .i64 (x:Nat)) from by rw[←hx.out];exact h.ca HD4.out))
  have HZF:=hid (show (∀b,F b→¬b=z)∧¬q=z from ⟨λb hb e=>by have:=HW.out.fl b hb;have h2:w.heap.size=z:=Hz.out;omega,λe=>by have:=blk_lt HW.out.cur;have h2:w.heap.size=z:=Hz.out;omega⟩)
  go_upto_region 3 with fail
  refine wp_region_held_drew (S:=λW'=>CurW F q cc j T ix cs S s d at_ en W') (by kernel_rfl) HW1.out.drew (λhH=>?_)
  refine Boxed.out ?_
  refine tkV 0 8 (.pointer (some ⟨q,0,none⟩)) hH (λhH=>?_)
  try simp only[Act.put,aT,aZ,aS]
  refine tkV 1 9 (.pointer (some ⟨q,0,none⟩)) hH (λhH=>?_)
  try simp only[Act.put,aT,aZ,aS]
  refine tkV 2 10 (.pointer (some ⟨q,0,none⟩)) hH (λhH=>?_)
  try simp only[Act.put,aT,aZ,aS]
  refine tkV 3 11 (.pointer (some ⟨q,0,none⟩)) hH (λhH=>?_)
  try simp only[Act.put,aT,aZ,aS]
  refine tkV 4 12 (.pointer (some ⟨q,5,none⟩)) hH (λhH=>?_)
  try simp only[Act.put,aT,aZ,aS]
  refine tkW 5 13 (.int .i64 (d:Nat)) hH (λw hSw=>?_) (λhH=>?_)
  ·have p:=hSw.c5
   unfold runsTo
   go_simp
  try simp only[Act.put,aT,aZ,aS]
  refine tkV 6 14 (.pointer (some ⟨q,0,none⟩)) hH (λhH=>?_)
  try simp only[Act.put,aT,aZ,aS]
  refine tkV 7 15 (.pointer (some ⟨q,6,none⟩)) hH (λhH=>?_)
  try simp only[Act.put,aT,aZ,aS]
  refine tkW 8 16 (.pointer (some ⟨q,6+d*2,none⟩)) hH (λw hSw=>?_) (λhH=>?_)
  ·exact val_of (idx_lv q d HD4.out w)
  try simp only[Act.put,aT,aZ,aS]
  refine tkV 9 17 (.pointer (some ⟨q,6+d*2,none⟩)) hH (λhH=>?_)
  try simp only[Act.put,aT,aZ,aS]
  refine tkW 10 18 (.int .i64 (x:Nat)) hH (λw hSw=>?_) (λhH=>?_)
  ·have p:=CX.out w hSw
   unfold runsTo
   go_simp
  try simp only[Act.put,aT,aZ,aS]
  refine tkC 11 (λK hK=>?_)
  change Oper.wp _ ⟨some 19,_,_,_,_,_⟩ _ _ _ _
  go_simp
  refine (key_any HW1.out.drew HDE.out.1 HDE.out.2 x HXL.out t0 HTX.out).mono ?_
  rintro e9 w2 ⟨A0,cap0,rfl,hb2⟩
  have HB12:=hid (below_of_dr hb2)
  have HB2:=hid (show Below w.heap.size w w2 from HB1.out.trans (HB12.out.mono HB1.out.size))
  have HW2:=hid (HWD.out.on HB2.out)
  have HV2:=hid ((HB12.out.block z (blk_lt HV1.out)).trans HV1.out)
  clear hb2
  obtain⟨r,Hr⟩:=name6 (t0.get ((wayN j).get e)) (.slice A0 0 cap0)
  have IR:=hid (infoV6.trans (congrArg some Hr.size.symm))
  have OR:=hid (show r.all (·.oneCell')=true from by rw[←Hr.out];kernel_rfl)
  have SR:=hid (show r.size=u.size from by rw[Hr.size,Hu.size])
  have HR:=hid (λ(w':World) (hb:Below w.heap.size w w')=>(show KeyRes (keyA c) w (.returned (.tuple #[.agg r,.bool true])) w' from by
   rw[HKV.out]
   exact⟨A0,cap0,by rw[←Hr.out];rfl,hb⟩))
  rw[Hr.out]
  dsimp only
  refine hK.out _ _ HW2.out (λhH=>?_)
  clear hK K
  try simp only[Act.put,aT,aZ,aS]
  refine tkC 12 (λK hK=>?_)
  change Oper.wp _ _ _ _ _ _
  refine st_rowW 39 _ _ rfl z _ r 39 rfl rfl HV2.out SR.out IR.out OR.out (λw3 hw3 ht3=>?_)
  have HV3:=hid hw3
  have HB3:=hid (show Below w.heap.size w w3 from below_turn HB2.out ht3 (λb hb=>by have hb:b=z:=hb;have h2:w.heap.size=z:=Hz.out;omega))
  refine hK.out _ _ (HW2.out.turn ht3 HZF.out.1 HZF.out.2) (λhH=>?_)
  clear hK K hw3 ht3
  try simp only[Act.put]
  refine tkV 13 3 (.bool true) hH (λhH=>?_)
  try simp only[Act.put]
  refine⟨wpAnyH_done (by kernel_rfl) ?_ _⟩
  clear hH
  go_wp2_with fail
  refine bodyPost_ret (v:=.tuple #[.agg r,.bool true]) (results_row2 Tryz.results40 (g:=z) rfl HV3.out _ Tryz.underlying39 rfl IR.out rfl) rfl (HR.out _ HB3.out)
theorem st_lv {P:Program} {op:Oper} {a:Act} {w:World} {K:Act→World→Prop} {Q:Exit→Act→World→Prop} {F:Nat→Prop} {q c j:Nat} {T:List Trip} {ix:List Nat} {cs:Nat→Array Value} {S s:Value} {d:Nat} {at_ en:Nat→Nat} (ty:TypeId) (x y:Operand) (ho:op.op = .store ty x y) {e m n:Nat} (he:e<4)
    (hx:a.eval x = .pointer (some ⟨q,6+e*2,none⟩)) (hy:a.eval y = .agg #[.int .i64 (m:Nat),.int .i64 (n:Nat)]) (hw:CurW F q c j T ix cs S s d at_ en w) (hi:(P.info? ty).map (·.size)=some 2)
    (h:∀w',CurW F q c j T ix cs S s d (upd at_ e m) (upd en e n) w'→Turn (λb=>b=q) w w'→K (a.put op.dst undef) w'):op.wp P a w K Q:=by
 have ht:=((Turn.refl (λb=>b=q) w).setCell (p:=⟨q,6+e*2,none⟩) (.inr rfl) (.int .i64 (m:Nat))).setCell (p:=⟨q,6+e*2+1,none⟩) (.inr rfl) (.int .i64 (n:Nat))
 refine wp_store_mid ty x y ho q (6+e*2) #[.int .i64 (m:Nat),.int .i64 (n:Nat)] hx hy (λi hi2=>?_) hi (by kernel_rfl) (h _ (hw.setL he m n) ht)
 have hi3:i<2:=hi2
 refine⟨?_,frozen_of_row _ _ _ _ _ hw.cur⟩
 rcases (show i=0∨i=1 by omega) with rfl | rfl
 ·rw[Nat.add_zero,hw.ca he];rfl
 ·rw[hw.ce he];rfl
set_option maxRecDepth 100000 in
set_option maxHeartbeats 8000000 in
theorem open_any {F:Nat→Prop} {q j:Nat} {T:List Trip} {c:CurA} {w:World} (h:CurRd F w q j T c) (hgb:GlobB w) (hgt:GlobT w) :
    Calls Tryz.prog 39 #[.pointer (some ⟨q,0,none⟩)] w (CurDo F q j T (openA T (wayN j) c) w):=by
 obtain⟨cc,ix,cs,S,s,at_,en,hw,hn⟩:=h
 have hst:=stands_any hw hn.d3
 rw[hn.stood]at hst
 have HN:=hid hn
 have HW:=hid hw
 have HST:=hid hst
 unfold ToldB at HST
 have HG:=hid (And.intro hgb hgt)
 have HIN:=hid (inway_of hw.r.ixo hw.r.scal)
 have c5:=hw.c5
 obtain⟨d,hd⟩:=name_itV c.way.length
 rw[hd.out]at c5 HST
 have HWD:=hid (show CurW F q cc j T ix cs S s d at_ en w from by rw[←hd.out];exact HW.out)
 have HNO:=hid (λ(h:openA T (wayN j) c=(c,false)) (w':World) (hb:Below w.heap.size w w')=>(show CurDo F q j T (openA T (wayN j) c) w (.returned (.bool false)) w' from by
  rw[h]
  exact⟨rfl,CurRd.on ⟨cc,ix,cs,S,s,at_,en,HW.out,HN.out⟩ hb,(Turn.of_below hb).mono λi hi h=>absurd (show w.heap.size≤i from h) (by omega)⟩))
 have hd3:d≤3:=by rw[←hd.out];exact HN.out.d3
 have HD3:=hid hd3
 clear hst hgb hgt hw hn hd3
 by_cases h0:d=0
 ·subst h0
  have hf0:c.fin=false:=by
   cases hf:c.fin with
   | true=>have:=HN.out.fin0 hf;rw[hd.out]at this;omega
   | false=>rfl
  have HF0:=hid hf0
  clear hf0
  obtain⟨A2,cap2,es,_,_⟩:=HWD.out.r.nums
  obtain⟨M,hM⟩:=name_itV ix.length
  rw[hM.out]at es
  subst es
  have c4:=HWD.out.c4
  by_cases hm:M=0
  ·subst hm
   have HR:=hid (HNO.out (open_none HIN.out (.inr (.inr ⟨hd.out,by rw[kof_len,hM.out]⟩))) w (Below.refl _ _))
   clear HNO HST
   go_enter Tryz.func39,Tryz.ntmps39
   go_wp2_with fail
   go_ret
   exact HR.out
  ·have e1:(0:Int)<M:=by omega
   have HM0:=hid (show M≠0 from hm)
   have HOP:=hid (show ∃cN,openA T (wayN j) c=(cN,true)∧cN.way.length=1∧CurN (Kof T ix) (wayN j) cN (upd at_ 1 0) (upd en 1 M) from by
    obtain⟨x,q1,q2⟩:=CurN.open_first (at_:=at_) (en:=en) HIN.out hd.out HF0.out (by rw[kof_len,hM.out];have:=HM0.out;omega)
    rw[kof_len,hM.out]at q2
    exact⟨_,q1,rfl,q2⟩)
   clear hm HNO HST
   go_enter Tryz.func39,Tryz.ntmps39
   go_upto_region 3 with fail
   refine wp_region_held_drew (S:=λW'=>W'.cell? ⟨q,4,none⟩=some (.slice A2 M cap2)) (by kernel_rfl) HWD.out.drew.c4 (λhH=>?_)
   refine Boxed.out ?_
   refine tkV 0 17 (.pointer (some ⟨q,0,none⟩)) hH (λhH=>?_)
   try simp only[Act.put,aT,aZ,aS]
   refine tkV 1 18 (.pointer (some ⟨q,0,none⟩)) hH (λhH=>?_)
   try simp only[Act.put,aT,aZ,aS]
   refine tkV 2 19 (.pointer (some ⟨q,0,none⟩)) hH (λhH=>?_)
   try simp only[Act.put,aT,aZ,aS]
   refine tkV 3 20 (.pointer (some ⟨q,4,none⟩)) hH (λhH=>?_)
   try simp only[Act.put,aT,aZ,aS]
   refine tkW 4 21 (.slice A2 M cap2) hH (λw hSw=>?_) (λhH=>?_)
   ·have p:=hSw
    unfold runsTo
    go_simp
   try simp only[Act.put,aT,aZ,aS]
   refine tkV 5 22 (.int .i64 (M:Nat)) hH (λhH=>?_)
   try simp only[Act.put,aT,aZ,aS]
   refine tkV 6 23 (.agg #[.int .i64 ((0:Nat):Int),.int .i64 (M:Nat)]) hH (λhH=>?_)
   try simp only[Act.put,aT,aZ,aS]
   refine tkV 7 24 (.pointer (some ⟨q,0,none⟩)) hH (λhH=>?_)
   try simp only[Act.put,aT,aZ,aS]
   refine tkV 8 25 (.pointer (some ⟨q,6,none⟩)) hH (λhH=>?_)
   try simp only[Act.put,aT,aZ,aS]
   refine tkW 9 26 (.pointer (some ⟨q,6+1*2,none⟩)) hH (λw hSw=>?_) (λhH=>?_)
   ·exact val_of (idx_lv q 1 (by omega) w)
   try simp only[Act.put,aT,aZ,aS]
   refine tkC 10 (λK hK=>?_)
   change Oper.wp _ _ _ _ _ _
   refine st_lv 168 _ _ rfl (e:=1) (m:=0) (n:=M) (by omega) rfl rfl HWD.out.drew zero88 (λw5 hw5 ht5=>?_)
   have HW5:=hid hw5
   have HT5:=hid (show Turn (λb=>b=q) w w5 from ⟨ht5.os,ht5.tape,ht5.output,ht5.size,ht5.block⟩)
   refine hK.out _ _ hw5.c4 (λhH=>?_)
   clear hK K hw5 ht5 c4 c5
   try simp only[Act.put]
   refine⟨wpAnyH_done (by kernel_rfl) ?_ _⟩
   clear hH
   have HFI:=hid (show CurDo F q j T (openA T (wayN j) c) w (.returned (.bool true)) (w5.setCell ⟨q,5,none⟩ (.int .i64 ((1:Nat):Int))) from by
    obtain⟨cN,hq1,hq2,hq3⟩:=HOP.out
    rw[hq1]
    exact⟨rfl,⟨cc,ix,cs,S,_,_,_,by rw[hq2];exact HW5.out.setD 1,hq3⟩,(HT5.out).setCell (p:=⟨q,5,none⟩) (.inr rfl) _⟩)
   have c5:=HW5.out.c5
   have f5:w5.frozen? ⟨q,5,none⟩=false:=Lib.frozen_of_heap HW5.out.cur 5
   go_wp2_with fail
   go_ret
   exact HFI.out
 ·have HD0:=hid h0
  have t0:((d:Int)==0)=false:=by simpa using h0
  by_cases h3:d=3
  ·subst h3
   have HR:=hid (HNO.out (open_none HIN.out (.inl hd.out)) w (Below.refl _ _))
   clear HNO HST t0 h0
   go_enter Tryz.func39,Tryz.ntmps39
   go_wp2_with fail
   go_ret
   exact HR.out
  ·have h12:d=1∨d=2:=by have:=HD3.out;omega
   have t27:(((d:Int)==1)=true)∨(((d:Int)==1)=false∧((d:Int)==2)=true):=by
    rcases h12 with h | h
    ·left;rw[h];rfl
    ·right;rw[h];exact⟨rfl,rfl⟩
   have HD12:=hid h12
   clear h12 h0 h3
   by_cases hz:c.fin=true
   ·have HF:=hid (show (decide (0<d) && !c.fin)=false from by rw[hz];simp)
    rw[HF.out]at HST
    have HR:=hid (HNO.out (open_none HIN.out (.inr (.inl hz))))
    clear HNO hz HF
    rcases t27 with t1 | ⟨t1,t2⟩
    ·go_enter Tryz.func39,Tryz.ntmps39
     go_wp2_with fail
     refine HST.out.mono ?_
     rintro e9 w1 ⟨rfl,hb1⟩
     have HB1:=hid (HR.out _ hb1)
     clear hb1
     go_wp2_with fail
     go_ret
     exact HB1.out
    ·go_enter Tryz.func39,Tryz.ntmps39
     go_wp2_with fail
     refine HST.out.mono ?_
     rintro e9 w1 ⟨rfl,hb1⟩
     have HB1:=hid (HR.out _ hb1)
     clear hb1
     go_wp2_with fail
     go_ret
     exact HB1.out
   ·have hf0:c.fin=false:=by
      cases hf:c.fin with
      | true=>exact absurd hf hz
      | false=>rfl
    have hl0:0<c.way.length:=by rw[hd.out];have:=HD0.out;omega
    have HF:=hid (show (decide (0<d) && !c.fin)=true from by rw[hf0,decide_eq_true (by have:=HD0.out;omega)];rfl)
    rw[HF.out]at HST
    obtain⟨v0,tt,hk,ht,hv⟩:=HN.out.key hl0 hf0
    obtain⟨vl,sl,hgl,hwl,hdl,hlev⟩:=HN.out.last hl0 hf0
    have HLF:=hid (And.intro hl0 hf0)
    have HLV:=hid (And.intro hdl hlev)
    obtain⟨x,hx⟩:=name_itV (at_ d)
    obtain⟨y,hy⟩:=name_itV (en d)
    obtain⟨e,he⟩:∃e,d=e+1:=⟨d-1,by have:=HD0.out;omega⟩
    have HDE:=hid (And.intro he (show e<3 from by have:=HD3.out;omega))
    have HKY:=hid (show keyA c=some (tt.get ((wayN j).get e)) from by rw[hk,←hv,hd.out,show d-1=e by omega])
    have HXY:=hid (show x<y∧y≤ix.length from by
     have h1:=hlev.ab
     have h2:=hlev.bl
     rw[hd.out,hx.out,hy.out]at h1
     rw[hd.out,hy.out,kof_len]at h2
     exact⟨h1,h2⟩)
    have HTX:=hid (show (Kof T ix)[x]?=some tt from by have h:=ht;rw[hd.out,hx.out]at h;exact h)
    have HPE:=hid (show e=c.way.length-1∧c.way.dropLast.length=e from by have h9:=HLV.out.1;rw[hd.out]at h9;rw[hd.out];constructor<;>omega)
    have CX:=hid (λ(W:World) (h:CurW F q cc j T ix cs S s d at_ en W)=>(show W.cell? ⟨q,6+d*2,none⟩=some (.int .i64 (x:Nat)) from by rw[←hx.out];exact h.ca (by have:=HD3.out;omega)))
    have HD4:=hid (show d<4 from by have:=HD3.out;omega)
    obtain⟨d1,hd1⟩:=name_itV (d+1)
    have HD1:=hid (show d1<4 from by have h1:=hd1.out;have:=HD12.out;omega)
    have HADD:=hid (show IntKind.i64.wrap ((d:Int)+1)=((d1:Nat):Int) from by have h1:=hd1.out;have:=HD12.out;rw[IntWalk.i64_in _ (by omega)];omega)
    clear hz hl0 hf0 hk ht hv hgl hwl hdl hlev he HNO
    rcases t27 with t1 | ⟨t1,t2⟩
    ·go_enter Tryz.func39,Tryz.ntmps39
     go_wp2_with fail
     refine HST.out.mono ?_
     rintro e9 w1 ⟨rfl,hb1⟩
     have HB1:=hid hb1
     have HW1:=hid (HWD.out.on hb1)
     clear hb1
     have HBE:=hid (behind_any HW1.out.drew HDE.out.1 HDE.out.2 (glob_under HG.out.1 HB1.out.drew) (globT_under HG.out.2 HB1.out.drew) x y hx.out hy.out HXY.out.1 HXY.out.2 tt HTX.out (λi i' h1 h2 h3 h4=>by
      have hl:=HLV.out.2
      rw[hd.out,hx.out,hy.out]at hl
      have:=pastF_mono HIN.out hl true (tt.get ((wayN j).get e)) i i' h1 h2 h3
      rw[HPE.out.2]at this
      exact this h4))
     go_upto_region 7 with fail
     refine wp_region_held_drew (S:=λW'=>W'.cell? ⟨q,5,none⟩=some (.int .i64 (d:Nat))∧W'.cell? ⟨q,6+d*2,none⟩=some (.int .i64 (x:Nat))) (by kernel_rfl) ⟨HW1.out.drew.c5,CX.out _ HW1.out.drew⟩ (λhH=>?_)
     refine Boxed.out ?_
     refine tkV 0 43 (.pointer (some ⟨q,0,none⟩)) hH (λhH=>?_)
     try simp only[Act.put,aT,aZ,aS]
     refine tkV 1 44 (.pointer (some ⟨q,0,none⟩)) hH (λhH=>?_)
     try simp only[Act.put,aT,aZ,aS]
     refine tkV 2 45 (.pointer (some ⟨q,0,none⟩)) hH (λhH=>?_)
     try simp only[Act.put,aT,aZ,aS]
     refine tkV 3 46 (.pointer (some ⟨q,5,none⟩)) hH (λhH=>?_)
     try simp only[Act.put,aT,aZ,aS]
     refine tkW 4 47 (.int .i64 (d:Nat)) hH (λw hSw=>?_) (λhH=>?_)
     ·have p:=hSw.1
      unfold runsTo
      go_simp
     try simp only[Act.put,aT,aZ,aS]
     refine tkW 5 48 (.int .i64 (d1:Nat)) hH (λw hSw=>?_) (λhH=>?_)
     ·have p:=HADD.out
      unfold runsTo
      go_simp
     try simp only[Act.put,aT,aZ,aS]
     refine tkV 6 49 (.pointer (some ⟨q,0,none⟩)) hH (λhH=>?_)
     try simp only[Act.put,aT,aZ,aS]
     refine tkV 7 50 (.pointer (some ⟨q,0,none⟩)) hH (λhH=>?_)
     try simp only[Act.put,aT,aZ,aS]
     refine tkV 8 51 (.pointer (some ⟨q,0,none⟩)) hH (λhH=>?_)
     try simp only[Act.put,aT,aZ,aS]
     refine tkV 9 52 (.pointer (some ⟨q,5,none⟩)) hH (λhH=>?_)
     try simp only[Act.put,aT,aZ,aS]
     refine tkW 10 53 (.int .i64 (d:Nat)) hH (λw hSw=>?_) (λhH=>?_)
     ·have p:=hSw.1
      unfold runsTo
      go_simp
     try simp only[Act.put,aT,aZ,aS]
     refine tkV 11 54 (.pointer (some ⟨q,0,none⟩)) hH (λhH=>?_)
     try simp only[Act.put,aT,aZ,aS]
     refine tkV 12 55 (.pointer (some ⟨q,6,none⟩)) hH (λhH=>?_)
     try simp only[Act.put,aT,aZ,aS]
     refine tkW 13 56 (.pointer (some ⟨q,6+d*2,none⟩)) hH (λw hSw=>?_) (λhH=>?_)
     ·exact val_of (idx_lv q d HD4.out w)
     try simp only[Act.put,aT,aZ,aS]
     refine tkV 14 57 (.pointer (some ⟨q,6+d*2,none⟩)) hH (λhH=>?_)
     try simp only[Act.put,aT,aZ,aS]
     refine tkW 15 58 (.int .i64 (x:Nat)) hH (λw hSw=>?_) (λhH=>?_)
     ·have p:=hSw.2
      unfold runsTo
      go_simp
     try simp only[Act.put,aT,aZ,aS]
     refine tkV 16 59 (.pointer (some ⟨q,0,none⟩)) hH (λhH=>?_)
     try simp only[Act.put,aT,aZ,aS]
     refine tkV 19 62 (.pointer (some ⟨q,0,none⟩)) hH (λhH=>?_)
     try simp only[Act.put,aT,aZ,aS]
     refine tkV 20 63 (.pointer (some ⟨q,6,none⟩)) hH (λhH=>?_)
     try simp only[Act.put,aT,aZ,aS]
     refine tkC 17 (λK hK=>?_)
     change Oper.wp _ ⟨some 60,_,_,_,_,_⟩ _ _ _ _
     go_simp
     refine HBE.out.mono ?_
     rintro e9 w2 ⟨m,rfl,hm1,hm2,hm3,hm4,hb2⟩
     have HB2:=hid (show Below w.heap.size w w2 from HB1.out.trans ((below_of_dr hb2).mono HB1.out.size))
     have HW2:=hid (HWD.out.on HB2.out)
     clear hb2 HBE
     have HOP:=hid (show ∃cN,openA T (wayN j) c=(cN,true)∧cN.way.length=d1∧CurN (Kof T ix) (wayN j) cN (upd at_ d1 x) (upd en d1 m) from by
      have hfa:=first_of (K:=Kof T ix) (p:=(wayN j).get e) (strict:=true) (v:=tt.get ((wayN j).get e)) hm1 hm2 hm3 hm4
      have hfa2:FirstAt (Kof T ix) (λt=>0<ordV (t.get ((wayN j).get (c.way.length-1))) (tt.get ((wayN j).get e))) (at_ c.way.length) (en c.way.length) m:=by
       rw[←HPE.out.1,hd.out,hx.out,hy.out]
       exact⟨hfa.aq,hfa.qb,λn t q1 q2 q3 q4=>hfa.no n t q1 q2 q3 (by rw[if_pos rfl];exact decide_eq_true q4),λt q1 q2=>by have:=hfa.yes t q1 q2;rw[if_pos rfl]at this;exact of_decide_eq_true this⟩
      obtain⟨xx,q1,q2⟩:=HN.out.open_next HIN.out HLF.out.1 (by rw[hd.out];have:=HD12.out;omega) HLF.out.2 HKY.out hfa2
      rw[hd.out,hd1.out,hx.out]at q2
      exact⟨_,q1,by rw[List.length_append,hd.out,←hd1.out];rfl,q2⟩)
     clear hm1 hm2 hm3 hm4
     dsimp only
     refine hK.out _ _ ⟨HW2.out.c5,CX.out _ HW2.out⟩ (λhH=>?_)
     clear hK K
     try simp only[Act.put,aT,aZ,aS]
     refine tkV 18 61 (.agg #[.int .i64 (x:Nat),.int .i64 (m:Nat)]) hH (λhH=>?_)
     try simp only[Act.put,aT,aZ,aS]
     refine tkW 21 64 (.pointer (some ⟨q,6+d1*2,none⟩)) hH (λw hSw=>?_) (λhH=>?_)
     ·exact val_of (idx_lv q d1 HD1.out w)
     try simp only[Act.put,aT,aZ,aS]
     refine tkC 22 (λK hK=>?_)
     change Oper.wp _ _ _ _ _ _
     refine st_lv 168 _ _ rfl (e:=d1) (m:=x) (n:=m) HD1.out rfl rfl HW2.out zero88 (λw5 hw5 ht5=>?_)
     have HW5:=hid hw5
     have HT5:=hid (show Turn (λb=>b=q) w w5 from ((Turn.of_below HB2.out).mono λi hi h=>absurd (show w.heap.size≤i from h) (by omega)).trans ht5)
     have hx5:w5.cell? ⟨q,6+d*2,none⟩=some (.int .i64 (x:Nat)):=by
      have h9:=hw5.ca HD4.out
      rw[upd_other _ (by have:=hd1.out;omega),hx.out]at h9
      exact h9
     refine hK.out _ _ ⟨hw5.c5,hx5⟩ (λhH=>?_)
     clear hK K hw5 ht5 hx5 c5
     try simp only[Act.put]
     refine⟨wpAnyH_done (by kernel_rfl) ?_ _⟩
     clear hH
     have HFI:=hid (show CurDo F q j T (openA T (wayN j) c) w (.returned (.bool true)) (w5.setCell ⟨q,5,none⟩ (.int .i64 ((d1:Nat):Int))) from by
      obtain⟨cN,hq1,hq2,hq3⟩:=HOP.out
      rw[hq1]
      exact⟨rfl,⟨cc,ix,cs,S,_,_,_,by rw[hq2];exact HW5.out.setD d1,hq3⟩,(HT5.out).setCell (p:=⟨q,5,none⟩) (.inr rfl) _⟩)
     have c5:=HW5.out.c5
     have f5:w5.frozen? ⟨q,5,none⟩=false:=Lib.frozen_of_heap HW5.out.cur 5
     have w8:=HADD.out
     go_wp2_with fail
     go_ret
     exact HFI.out
    ·go_enter Tryz.func39,Tryz.ntmps39
     go_wp2_with fail
     refine HST.out.mono ?_
     rintro e9 w1 ⟨rfl,hb1⟩
     have HB1:=hid hb1
     have HW1:=hid (HWD.out.on hb1)
     clear hb1
     have HBE:=hid (behind_any HW1.out.drew HDE.out.1 HDE.out.2 (glob_under HG.out.1 HB1.out.drew) (globT_under HG.out.2 HB1.out.drew) x y hx.out hy.out HXY.out.1 HXY.out.2 tt HTX.out (λi i' h1 h2 h3 h4=>by
      have hl:=HLV.out.2
      rw[hd.out,hx.out,hy.out]at hl
      have:=pastF_mono HIN.out hl true (tt.get ((wayN j).get e)) i i' h1 h2 h3
      rw[HPE.out.2]at this
      exact this h4))
     go_upto_region 7 with fail
     refine wp_region_held_drew (S:=λW'=>W'.cell? ⟨q,5,none⟩=some (.int .i64 (d:Nat))∧W'.cell? ⟨q,6+d*2,none⟩=some (.int .i64 (x:Nat))) (by kernel_rfl) ⟨HW1.out.drew.c5,CX.out _ HW1.out.drew⟩ (λhH=>?_)
     refine Boxed.out ?_
     refine tkV 0 43 (.pointer (some ⟨q,0,none⟩)) hH (λhH=>?_)
     try simp only[Act.put,aT,aZ,aS]
     refine tkV 1 44 (.pointer (some ⟨q,0,none⟩)) hH (λhH=>?_)
     try simp only[Act.put,aT,aZ,aS]
     refine tkV 2 45 (.pointer (some ⟨q,0,none⟩)) hH (λhH=>?_)
     try simp only[Act.put,aT,aZ,aS]
     refine tkV 3 46 (.pointer (some ⟨q,5,none⟩)) hH (λhH=>?_)
     try simp only[Act.put,aT,aZ,aS]
     refine tkW 4 47 (.int .i64 (d:Nat)) hH (λw hSw=>?_) (λhH=>?_)
     ·have p:=hSw.1
      unfold runsTo
      go_simp
     try simp only[Act.put,aT,aZ,aS]
     refine tkW 5 48 (.int .i64 (d1:Nat)) hH (λw hSw=>?_) (λhH=>?_)
     ·have p:=HADD.out
      unfold runsTo
      go_simp
     try simp only[Act.put,aT,aZ,aS]
     refine tkV 6 49 (.pointer (some ⟨q,0,none⟩)) hH (λhH=>?_)
     try simp only[Act.put,aT,aZ,aS]
     refine tkV 7 50 (.pointer (some ⟨q,0,none⟩)) hH (λhH=>?_)
     try simp only[Act.put,aT,aZ,aS]
     refine tkV 8 51 (.pointer (some ⟨q,0,none⟩)) hH (λhH=>?_)
     try simp only[Act.put,aT,aZ,aS]
     refine tkV 9 52 (.pointer (some ⟨q,5,none⟩)) hH (λhH=>?_)
     try simp only[Act.put,aT,aZ,aS]
     refine tkW 10 53 (.int .i64 (d:Nat)) hH (λw hSw=>?_) (λhH=>?_)
     ·have p:=hSw.1
      unfold runsTo
      go_simp
     try simp only[Act.put,aT,aZ,aS]
     refine tkV 11 54 (.pointer (some ⟨q,0,none⟩)) hH (λhH=>?_)
     try simp only[Act.put,aT,aZ,aS]
     refine tkV 12 55 (.pointer (some ⟨q,6,none⟩)) hH (λhH=>?_)
     try simp only[Act.put,aT,aZ,aS]
     refine tkW 13 56 (.pointer (some ⟨q,6+d*2,none⟩)) hH (λw hSw=>?_) (λhH=>?_)
     ·exact val_of (idx_lv q d HD4.out w)
     try simp only[Act.put,aT,aZ,aS]
     refine tkV 14 57 (.pointer (some ⟨q,6+d*2,none⟩)) hH (λhH=>?_)
     try simp only[Act.put,aT,aZ,aS]
     refine tkW 15 58 (.int .i64 (x:Nat)) hH (λw hSw=>?_) (λhH=>?_)
     ·have p:=hSw.2
      unfold runsTo
      go_simp
     try simp only[Act.put,aT,aZ,aS]
     refine tkV 16 59 (.pointer (some ⟨q,0,none⟩)) hH (λhH=>?_)
     try simp only[Act.put,aT,aZ,aS]
     refine tkV 19 62 (.pointer (some ⟨q,0,none⟩)) hH (λhH=>?_)
     try simp only[Act.put,aT,aZ,aS]
     refine tkV 20 63 (.pointer (some ⟨q,6,none⟩)) hH (λhH=>?_)
     try simp only[Act.put,aT,aZ,aS]
     refine tkC 17 (λK hK=>?_)
     change Oper.wp _ ⟨some 60,_,_,_,_,_⟩ _ _ _ _
     go_simp
     refine HBE.out.mono ?_
     rintro e9 w2 ⟨m,rfl,hm1,hm2,hm3,hm4,hb2⟩
     have HB2:=hid (show Below w.heap.size w w2 from HB1.out.trans ((below_of_dr hb2).mono HB1.out.size))
     have HW2:=hid (HWD.out.on HB2.out)
     clear hb2 HBE
     have HOP:=hid (show ∃cN,openA T (wayN j) c=(cN,true)∧cN.way.length=d1∧CurN (Kof T ix) (wayN j) cN (upd at_ d1 x) (upd en d1 m) from by
      have hfa:=first_of (K:=Kof T ix) (p:=(wayN j).get e) (strict:=true) (v:=tt.get ((wayN j).get e)) hm1 hm2 hm3 hm4
      have hfa2:FirstAt (Kof T ix) (λt=>0<ordV (t.get ((wayN j).get (c.way.length-1))) (tt.get ((wayN j).get e))) (at_ c.way.length) (en c.way.length) m:=by
       rw[←HPE.out.1,hd.out,hx.out,hy.out]
       exact⟨hfa.aq,hfa.qb,λn t q1 q2 q3 q4=>hfa.no n t q1 q2 q3 (by rw[if_pos rfl];exact decide_eq_true q4),λt q1 q2=>by have:=hfa.yes t q1 q2;rw[if_pos rfl]at this;exact of_decide_eq_true this⟩
      obtain⟨xx,q1,q2⟩:=HN.out.open_next HIN.out HLF.out.1 (by rw[hd.out];have:=HD12.out;omega) HLF.out.2 HKY.out hfa2
      rw[hd.out,hd1.out,hx.out]at q2
      exact⟨_,q1,by rw[List.length_append,hd.out,←hd1.out];rfl,q2⟩)
     clear hm1 hm2 hm3 hm4
     dsimp only
     refine hK.out _ _ ⟨HW2.out.c5,CX.out _ HW2.out⟩ (λhH=>?_)
     clear hK K
     try simp only[Act.put,aT,aZ,aS]
     refine tkV 18 61 (.agg #[.int .i64 (x:Nat),.int .i64 (m:Nat)]) hH (λhH=>?_)
     try simp only[Act.put,aT,aZ,aS]
     refine tkW 21 64 (.pointer (some ⟨q,6+d1*2,none⟩)) hH (λw hSw=>?_) (λhH=>?_)
     ·exact val_of (idx_lv q d1 HD1.out w)
     try simp only[Act.put,aT,aZ,aS]
     refine tkC 22 (λK hK=>?_)
     change Oper.wp _ _ _ _ _ _
     refine st_lv 168 _ _ rfl (e:=d1) (m:=x) (n:=m) HD1.out rfl rfl HW2.out zero88 (λw5 hw5 ht5=>?_)
     have HW5:=hid hw5
     have HT5:=hid (show Turn (λb=>b=q) w w5 from ((Turn.of_below HB2.out).mono λi hi h=>absurd (show w.heap.size≤i from h) (by omega)).trans ht5)
     have hx5:w5.cell? ⟨q,6+d*2,none⟩=some (.int .i64 (x:Nat)):=by
      have h9:=hw5.ca HD4.out
      rw[upd_other _ (by have:=hd1.out;omega),hx.out]at h9
      exact h9
     refine hK.out _ _ ⟨hw5.c5,hx5⟩ (λhH=>?_)
     clear hK K hw5 ht5 hx5 c5
     try simp only[Act.put]
     refine⟨wpAnyH_done (by kernel_rfl) ?_ _⟩
     clear hH
     have HFI:=hid (show CurDo F q j T (openA T (wayN j) c) w (.returned (.bool true)) (w5.setCell ⟨q,5,none⟩ (.int .i64 ((d1:Nat):Int))) from by
      obtain⟨cN,hq1,hq2,hq3⟩:=HOP.out
      rw[hq1]
      exact⟨rfl,⟨cc,ix,cs,S,_,_,_,by rw[hq2];exact HW5.out.setD d1,hq3⟩,(HT5.out).setCell (p:=⟨q,5,none⟩) (.inr rfl) _⟩)
     have c5:=HW5.out.c5
     have f5:w5.frozen? ⟨q,5,none⟩=false:=Lib.frozen_of_heap HW5.out.cur 5
     have w8:=HADD.out
     go_wp2_with fail
     go_ret
     exact HFI.out
def zeroF:Nat→Nat:=λ_=>0
theorem build91 (c:Nat) (a b d:Value) (A:Option Addr) (n cp:Nat) (W:World):(Instr.build 171 #[(0,.pointer (some ⟨c,0,none⟩)),(1,.agg #[a,b,d]),(2,.slice A n cp)]).run Tryz.prog W = .ok (.agg #[.pointer (some ⟨c,0,none⟩),a,b,d,.slice A n cp,.int .i64 0,.int .i64 0,.int .i64 0,.int .i64 0,.int .i64 0,.int .i64 0,.int .i64 0,.int .i64 0,.int .i64 0]) W:=by kernel_rfl
def CursorIs (F:Nat→Prop) (i:Nat) (T:List Trip) (w:World) (e:Ending) (w':World):Prop:=∃q,e = .returned (.tuple #[.pointer (some ⟨q,0,none⟩),.int .i64 0])∧CurRd F w' q i T ⟨[],false⟩∧Below w.heap.size w w'∧w.heap.size≤q
set_option maxRecDepth 100000 in
set_option maxHeartbeats 4000000 in
theorem cursor_any {F:Nat→Prop} {c:Nat} {T:List Trip} {w:World} (h:StoreAt F w c T) (hF:∀b,F b→b<w.heap.size) (i:Nat) (hi:i<6) :
    Calls Tryz.prog 38 #[.pointer (some ⟨c,0,none⟩),.string (wayT i)] w (CursorIs F i T w):=by
 obtain⟨S,ss,cs,h1,h2,h3⟩:=h.cells
 obtain⟨ix,hix,hri⟩:=h3 i hi
 obtain⟨A2,cap2,es,_,_⟩:=id hri
 obtain⟨M,hM⟩:=name_itV ix.length
 rw[hM.out]at es
 have HI:=hid hi
 have HSS:=hid es
 have HF:=hid hF
 have HST:=hid (And.intro h1 (And.intro h2 (And.intro hix hri)))
 have HH:=hid h
 clear h1 h2 h3 hix hri hi es hF h
 go_enter Tryz.func38,Tryz.ntmps38
 go_wp2_with fail
 refine (way_any i HI.out _).mono ?_
 unfold WayIs
 rintro e w1 ⟨rfl,hb1⟩
 have HB1:=hid hb1
 clear hb1
 obtain⟨wq,Hwq⟩:=name_itV (wayC (wayN i))
 have ZQ:=hid (show wq.size=3 from by rw[←Hwq.out];rfl)
 have ONQ:=hid (show wq.all (·.oneCell')=true from by rw[←Hwq.out];kernel_rfl)
 rw[Hwq.out]
 obtain⟨zq,Hzq⟩:=name_itV w1.heap.size
 have HBQ:=hid (show (w1.alloc (.cells #[.int .i64 0,.int .i64 0,.int .i64 0] 101)).heap[zq]?=some (.cells #[.int .i64 0,.int .i64 0,.int .i64 0] 101 (0,0)) from by rw[←Hzq.out];exact heap_alloc_new w1 _)
 have HIQ:=hid (show (Tryz.prog.info? 101).map (·.size)=some wq.size from by rw[ZQ.out];kernel_rfl)
 go_upto_region 4 with ((with_reducible refine at_st 6 ?_);refine st_row rfl 101 _ _ rfl zq (#[.int .i64 0,.int .i64 0,.int .i64 0]) wq 101 (by rw[←Hzq.out];rfl) rfl HBQ.out ZQ.out HIQ.out ONQ.out ?_;intro w2 hw2 ht2)
 rw[Hzq.out]
 have HB2:=hid (HB1.out.trans ((box_below (w5:=w2) (by rw[Hzq.out];exact ht2)).mono HB1.out.size))
 have HQ2:=hid hw2
 clear hw2 ht2 HBQ
 have HC2:=hid (λ(W:World) (hb:Below w2.heap.size w2 W)=>(show W.heap[c]?=some (.cells #[S,ss 0,ss 1,ss 2,ss 3,ss 4,ss 5] 97 (0,0)) from ((HB2.out.trans (hb.mono HB2.out.size)).block c (HF.out c HH.out.fc)).trans HST.out.1))
 have HCI:=hid (λ(W:World) (h:W.heap[c]?=some (.cells #[S,ss 0,ss 1,ss 2,ss 3,ss 4,ss 5] 97 (0,0)))=>(show W.cell? ⟨c,1+i,none⟩=some (.slice A2 M cap2) from by
  rw[←HSS.out]
  rcases (show i=0∨i=1∨i=2∨i=3∨i=4∨i=5 by have:=HI.out;omega) with rfl | rfl | rfl | rfl | rfl | rfl<;>exact cell_of_heap h _))
 have IWQ:=hid (show wq=#[.int .i64 ((wayN i).i:Nat),.int .i64 ((wayN i).j:Nat),.int .i64 ((wayN i).k:Nat)] from Hwq.out.symm)
 obtain⟨cu,Hcu⟩:=name_itV (curC c (wayN i) (.slice A2 M cap2) 0 zeroF zeroF)
 have HBU:=hid (λW:World=>(show (Instr.build 171 #[(0,.pointer (some ⟨c,0,none⟩)),(1,.agg wq),(2,.slice A2 M cap2)]).run Tryz.prog W = .ok (.agg cu) W from by rw[IWQ.out,←Hcu.out];exact build91 c _ _ _ A2 M cap2 W))
 clear Hwq
 refine wp_region_held_drew (S:=λW'=>W'.heap[c]?=some (.cells #[S,ss 0,ss 1,ss 2,ss 3,ss 4,ss 5] 97 (0,0))∧W'.heap[zq]?=some (.cells wq 101 (0,0))) (by kernel_rfl) ⟨HC2.out _ (Below.refl _ _).drew,HQ2.out⟩ (λhH=>?_)
 refine Boxed.out ?_
 refine tkV 0 17 (.pointer (some ⟨c,0,none⟩)) hH (λhH=>?_)
 try simp only[Act.put,aT,aZ,aS]
 refine tkW 1 18 (.agg wq) hH (λw hSw=>?_) (λhH=>?_)
 ·exact val_of (ld_run hSw.2 101 _ Tryz.underlying101 rfl (by rw[ZQ.out];kernel_rfl))
 try simp only[Act.put,aT,aZ,aS]
 refine tkV 2 19 (.pointer (some ⟨c,0,none⟩)) hH (λhH=>?_)
 try simp only[Act.put,aT,aZ,aS]
 refine tkV 3 20 (.int .i64 (i:Nat)) hH (λhH=>?_)
 try simp only[Act.put,aT,aZ,aS]
 refine tkV 4 21 (.pointer (some ⟨c,0,none⟩)) hH (λhH=>?_)
 try simp only[Act.put,aT,aZ,aS]
 refine tkV 5 22 (.pointer (some ⟨c,1,none⟩)) hH (λhH=>?_)
 try simp only[Act.put,aT,aZ,aS]
 refine tkW 6 23 (.pointer (some ⟨c,1+i,none⟩)) hH (λw hSw=>?_) (λhH=>?_)
 ·exact val_of (idx_six c i HI.out w)
 try simp only[Act.put,aT,aZ,aS]
 refine tkW 7 24 (.slice A2 M cap2) hH (λw hSw=>?_) (λhH=>?_)
 ·have p:=HCI.out w hSw.1
  unfold runsTo
  go_simp
 try simp only[Act.put,aT,aZ,aS]
 refine tkW 8 25 (.agg cu) hH (λw hSw=>?_) (λhH=>?_)
 ·refine val_of ?_
  simp only[List.map_toArray,List.map_cons,List.map_nil]
  exact HBU.out w
 try simp only[Act.put,aT,aZ,aS]
 refine tkC 9 (λK hK=>?_)
 change Oper.wp _ ⟨some 26,_,_,_,_,_⟩ _ _ _ _
 go_simp
 have HBA:=hid (show Below w2.heap.size w2 (w2.alloc (.cells cu 171)).drew from ((Below.refl _ _).alloc (Nat.le_refl _) _).drew)
 refine hK.out _ _ ⟨HC2.out _ HBA.out,(HBA.out.block zq (blk_lt HQ2.out)).trans HQ2.out⟩ (λhH=>?_)
 clear hK K
 try simp only[Act.put,aT,aZ,aS]
 refine tkV 10 4 (.pointer (some ⟨w2.heap.size,0,none⟩)) hH (λhH=>?_)
 try simp only[Act.put,aT,aZ,aS]
 refine tkV 11 5 (.int .i64 0) hH (λhH=>?_)
 try simp only[Act.put,aT,aZ,aS]
 refine⟨wpAnyH_done (by kernel_rfl) ?_ _⟩
 clear hH
 have HB3:=hid (show Below w.heap.size w (w2.alloc (.cells cu 171)).drew from HB2.out.trans (HBA.out.mono HB2.out.size))
 have HCU:=hid (show CurRd F (w2.alloc (.cells cu 171)).drew w2.heap.size i T ⟨[],false⟩ from by
  have hk:∀b,F b→(w2.alloc (.cells cu 171)).drew.heap[b]?=w.heap[b]?:=λb hb=>HB3.out.block b (HF.out b hb)
  refine⟨c,ix,cs,S,ss i,zeroF,zeroF,⟨⟨?_,HST.out.2.1.keep λp hp=>World.cell?_of_block (hk _ hp),HST.out.2.2.2.keep λp hp=>World.cell?_of_block (hk _ hp),HST.out.2.2.1,HH.out.fc,HI.out,HH.out.scal,HH.out.fit,HH.out.len⟩,?_,?_,λb hb=>Nat.lt_of_lt_of_le (HF.out b hb) HB3.out.size⟩,CurN.start _ _ _ _⟩
  ·exact cell_of_heap (HC2.out _ HBA.out) 0
  ·rw[HSS.out]
   show (w2.alloc _).heap[w2.heap.size]?=some (.cells (curC c (wayN i) (.slice A2 M cap2) 0 zeroF zeroF) _ _)
   rw[Hcu.out]
   exact heap_alloc_new w2 _
  ·exact λh=>by have:=HF.out _ h;have:=HB2.out.size;omega)
 have HFI:=hid (show CursorIs F i T w (.returned (.tuple #[.pointer (some ⟨w2.heap.size,0,none⟩),.int .i64 0])) (w2.alloc (.cells cu 171)).drew from ⟨_,rfl,HCU.out,HB3.out,HB2.out.size⟩)
 clear HCU HBA HC2 HCI
 go_wp2_with fail
 go_ret2
 exact HFI.out
end Go.Proofs.YtefhfadjajcmkaaGreatDoor
