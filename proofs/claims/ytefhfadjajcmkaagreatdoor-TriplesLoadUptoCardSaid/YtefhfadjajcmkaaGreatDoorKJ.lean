/- Count: how many triples fit a pattern. -/
import Derived.Test.YtefhfadjajcmkaaGreatDoorKI
import Derived.Test.YtefhfadjajcmkaaGreatDoorK8
import Derived.Test.YtefhfadjajcmkaaGreatDoorKH
set_option linter.unusedVariables false
set_option linter.unusedSimpArgs false
namespace Go.Proofs.YtefhfadjajcmkaaGreatDoor
open Go Go.RowKit Go.Maps
open Go.Lib (hid cell_of_heap)
def iriV (t:ByteArray):Val:=.mk 8 false 0 t ⟨#[]⟩ []
def wk1:Trip:=⟨iriV ⟨#[97]⟩,iriV ⟨#[112]⟩,iriV ⟨#[98]⟩⟩
def wk2:Trip:=⟨iriV ⟨#[97]⟩,iriV ⟨#[112]⟩,iriV ⟨#[99]⟩⟩
def wk3:Trip:=⟨iriV ⟨#[98]⟩,iriV ⟨#[113]⟩,iriV ⟨#[99]⟩⟩
theorem wk_ok (t:Trip) (h:t∈[wk1,wk2,wk3]):OkT t:=by
 simp only[List.mem_cons,List.not_mem_nil,or_false]at h
 rcases h with rfl | rfl | rfl<;>exact⟨⟨by decide,by decide,by decide⟩,⟨by decide,by decide,by decide⟩,⟨by decide,by decide,by decide⟩⟩
theorem wk_may (t:Trip) (h:t∈[wk1,wk2,wk3]):mayT t=true:=by
 simp only[List.mem_cons,List.not_mem_nil,or_false]at h
 rcases h with rfl | rfl | rfl<;>decide
theorem wk_scal (t:Trip) (h:t∈[wk1,wk2,wk3]):ScalT t:=mayT_scal (wk_may t h) (wk_ok t h)
theorem wk_rise:Rise (along (wayN 0)) [wk1,wk2,wk3]:=by decide
theorem wk_load:loadR (along (wayN 0)) [wk1,wk2,wk3]=[wk1,wk2,wk3]:=by
 have h:=loadR_is (along_pre (wayN 0)) (l:=[wk1,wk2,wk3]) (λa ha b hb h=>along_eq (wayN_ok 0) (wk_scal a ha) (wk_scal b hb) h)
 exact rise_one (along_pre _) h.1 wk_rise h.2
theorem wk_keys0:keysA [wk1,wk2,wk3] (wayN 3) []=[iriV ⟨#[112]⟩,iriV ⟨#[113]⟩]:=by
 have h:=keysA_is (w:=wayN 3) wk_scal []
 refine rise_one ordV_pre h.1 (by decide) λx=>(h.2 x).trans ?_
 constructor
 ·rintro⟨t,ht,_,rfl⟩
  simp only[List.mem_cons,List.not_mem_nil,or_false]at ht ⊢
  rcases ht with rfl | rfl | rfl
  ·exact .inl rfl
  ·exact .inl rfl
  ·exact .inr rfl
 ·intro hx
  simp only[List.mem_cons,List.not_mem_nil,or_false]at hx
  rcases hx with rfl | rfl
  ·exact⟨wk1,by simp,Begins.nil _ _,rfl⟩
  ·exact⟨wk3,by simp,Begins.nil _ _,rfl⟩
theorem begins_one {w:Way} {v:Val} {t:Trip}:Begins w [v] t↔t.get (w.get 0)=v:=by
 have:=Begins.snoc (w:=w) (pre:=[]) (v:=v) (t:=t)
 exact⟨λh=>(this.1 h).2,λh=>this.2 ⟨Begins.nil _ _,h⟩⟩
theorem wk_keys1:keysA [wk1,wk2,wk3] (wayN 3) [iriV ⟨#[112]⟩]=[iriV ⟨#[98]⟩,iriV ⟨#[99]⟩]:=by
 have h:=keysA_is (w:=wayN 3) wk_scal [iriV ⟨#[112]⟩]
 refine rise_one ordV_pre h.1 (by decide) λx=>(h.2 x).trans ?_
 constructor
 ·rintro⟨t,ht,hb,rfl⟩
  simp only[List.mem_cons,List.not_mem_nil,or_false]at ht ⊢
  rcases ht with rfl | rfl | rfl
  ·exact .inl rfl
  ·exact .inr rfl
  ·exact absurd (begins_one.1 hb) (by intro h;injection h with _ _ _ h _ _;revert h;decide)
 ·intro hx
  simp only[List.mem_cons,List.not_mem_nil,or_false]at hx
  rcases hx with rfl | rfl
  ·exact⟨wk1,by simp,begins_one.2 rfl,rfl⟩
  ·exact⟨wk2,by simp,begins_one.2 rfl,rfl⟩
theorem wk_s1:openA [wk1,wk2,wk3] (wayN 3) ⟨[],false⟩=(⟨[iriV ⟨#[112]⟩],false⟩,true):=by
 unfold openA
 rw[if_neg (by decide),wk_keys0]
 rfl
theorem wk_s2:openA [wk1,wk2,wk3] (wayN 3) ⟨[iriV ⟨#[112]⟩],false⟩=(⟨[iriV ⟨#[112]⟩,iriV ⟨#[98]⟩],false⟩,true):=by
 unfold openA
 rw[if_neg (by decide),wk_keys1]
 rfl
theorem wk_s3:nextA [wk1,wk2,wk3] (wayN 3) ⟨[iriV ⟨#[112]⟩,iriV ⟨#[98]⟩],false⟩=(⟨[iriV ⟨#[112]⟩,iriV ⟨#[99]⟩],false⟩,true):=by
 show toA [wk1,wk2,wk3] (wayN 3) true (iriV ⟨#[98]⟩) ⟨[iriV ⟨#[112]⟩,iriV ⟨#[98]⟩],false⟩=_
 show (match (keysA [wk1,wk2,wk3] (wayN 3) [iriV ⟨#[112]⟩]).find? (toF true (iriV ⟨#[98]⟩) (iriV ⟨#[98]⟩)) with | some x=>((⟨[iriV ⟨#[112]⟩]++[x],false⟩:CurA),true) | none=>_)=_
 rw[wk_keys1,show [iriV ⟨#[98]⟩,iriV ⟨#[99]⟩].find? (toF true (iriV ⟨#[98]⟩) (iriV ⟨#[98]⟩))=some (iriV ⟨#[99]⟩) from by kernel_rfl]
 rfl
theorem wk_s4:nextA [wk1,wk2,wk3] (wayN 3) ⟨[iriV ⟨#[112]⟩,iriV ⟨#[99]⟩],false⟩=(⟨[iriV ⟨#[112]⟩,iriV ⟨#[99]⟩],true⟩,false):=by
 show (match (keysA [wk1,wk2,wk3] (wayN 3) [iriV ⟨#[112]⟩]).find? (toF true (iriV ⟨#[99]⟩) (iriV ⟨#[99]⟩)) with | some x=>((⟨[iriV ⟨#[112]⟩]++[x],false⟩:CurA),true) | none=>_)=_
 rw[wk_keys1,show [iriV ⟨#[98]⟩,iriV ⟨#[99]⟩].find? (toF true (iriV ⟨#[99]⟩) (iriV ⟨#[99]⟩))=none from by kernel_rfl]
theorem wk_s5:upA ⟨[iriV ⟨#[112]⟩,iriV ⟨#[99]⟩],true⟩=(⟨[iriV ⟨#[112]⟩],false⟩,true):=rfl
theorem wk_s6:nextA [wk1,wk2,wk3] (wayN 3) ⟨[iriV ⟨#[112]⟩],false⟩=(⟨[iriV ⟨#[113]⟩],false⟩,true):=by
 show (match (keysA [wk1,wk2,wk3] (wayN 3) []).find? (toF true (iriV ⟨#[112]⟩) (iriV ⟨#[112]⟩)) with | some x=>((⟨[]++[x],false⟩:CurA),true) | none=>_)=_
 rw[wk_keys0,show [iriV ⟨#[112]⟩,iriV ⟨#[113]⟩].find? (toF true (iriV ⟨#[112]⟩) (iriV ⟨#[112]⟩))=some (iriV ⟨#[113]⟩) from by kernel_rfl]
 rfl
theorem build_iri (t:ByteArray) (W:World):(Instr.build 39 #[(0,.int .i64 8),(3,.string t)]).run Tryz.prog W = .ok (.agg (cellsV (iriV t) (.slice none 0 0))) W:=by kernel_rfl
def IriIs (t:ByteArray) (w:World) (e:Ending) (w':World):Prop:=e = .returned (.agg (cellsV (iriV t) (.slice none 0 0)))∧Below w.heap.size w w'
set_option maxRecDepth 100000 in
set_option maxHeartbeats 2000000 in
theorem iri5_any (t:ByteArray) (w:World):Calls Tryz.prog 37 #[.string t] w (IriIs t w):=by
 obtain⟨u,Hu⟩:=name6 (iriV t) (.slice none 0 0)
 have SL:=hid (show u.size=(#[.int .i64 0,.bool false,.int .i64 0,.string ⟨#[]⟩,.string ⟨#[]⟩,.slice none 0 0]:Array Value).size from by rw[Hu.size];rfl)
 have IL:=hid (show (Tryz.prog.info? 39).map (·.size)=some u.size from infoV6.trans (congrArg some Hu.size.symm))
 have OL:=hid (show u.all (·.oneCell')=true from by rw[←Hu.out];kernel_rfl)
 have HBU:=hid (λW:World=>(show (Instr.build 39 #[(0,.int .i64 8),(3,.string t)]).run Tryz.prog W = .ok (.agg u) W from by rw[←Hu.out];exact build_iri t W))
 obtain⟨z,Hz⟩:=name_itV w.heap.size
 obtain⟨wb,HWB⟩:=name_itV (w.alloc (.cells #[.int .i64 0,.bool false,.int .i64 0,.string ⟨#[]⟩,.string ⟨#[]⟩,.slice none 0 0] 39))
 have HBZ:=hid (show Below w.heap.size w wb from by rw[←HWB.out];exact (Below.refl _ _).alloc (Nat.le_refl _) _)
 have HVZ:=hid (show wb.heap[z]?=some (.cells #[.int .i64 0,.bool false,.int .i64 0,.string ⟨#[]⟩,.string ⟨#[]⟩,.slice none 0 0] 39 (0,0)) from by rw[←HWB.out,←Hz.out];exact heap_alloc_new w _)
 have HR:=hid (λ(w':World) (hb:Below w.heap.size w w')=>(show IriIs t w (.returned (.agg u)) w' from ⟨by rw[←Hu.out],hb⟩))
 clear Hu
 go_enter Tryz.func37,Tryz.ntmps37
 go_upto_region 1 with fail
 rw[HWB.out,Hz.out]
 clear HWB
 go_wp2_with (first
  | ((with_reducible refine at_dst (some 4) ?_);refine build_arm rfl 39 _ rfl #[(0,.int .i64 8),(3,.string t)] (by kernel_rfl) (.agg u) (HBU.out _) ?_)
  | ((with_reducible refine at_st 2 ?_);refine st_row rfl 39 _ _ rfl z (#[.int .i64 0,.bool false,.int .i64 0,.string ⟨#[]⟩,.string ⟨#[]⟩,.slice none 0 0]) u 39 rfl rfl HVZ.out SL.out IL.out OL.out ?_;intro w2 hw2 ht2))
 have HB2:=hid (show Below w.heap.size w w2 from below_turn HBZ.out ht2 (λb hb=>by have hb:b=z:=hb;have h2:w.heap.size=z:=Hz.out;omega))
 refine bodyPost_ret (v:=.agg u) (results_row Tryz.results37 (g:=z) rfl hw2 _ Tryz.underlying39 rfl IL.out) rfl (HR.out _ HB2.out)
theorem build_tr (t:Trip) (W:World):(Instr.build 41 #[(0,.agg (cellsV t.s (.slice none 0 0))),(1,.agg (cellsV t.p (.slice none 0 0))),(2,.agg (cellsV t.o (.slice none 0 0)))]).run Tryz.prog W = .ok (.agg (cellsT t nilS)) W:=by kernel_rfl
theorem bs3_list (x y z:Trip) (w:World):(Instr.buildSlice 22 3 #[(0,.agg (cellsT x nilS)),(1,.agg (cellsT y nilS)),(2,.agg (cellsT z nilS))]).run Tryz.prog w = .ok (.slice (some ⟨w.heap.size,0,none⟩) 3 3) (w.alloc (.cells (cellsT x nilS++cellsT y nilS++cellsT z nilS) 41)):=by kernel_rfl
section
variable {P:Program} {ops:Array Oper} {rest:List Oper} {op:Oper} {a:Act} {w:World} {Q:Exit→Act→World→Prop}
theorem bs_arm (hgd:op.guard=none) (ty:TypeId) (n:Nat) (parts:Array (Nat×Operand)) (ho:op.op = .buildSlice ty n parts) (ps:Array (Nat×Value)) (hps:(parts.map λ(i,x)=>(i,a.eval x))=ps) (v:Value) (w':World) (hv:(Instr.buildSlice ty n ps).run P w = .ok v w') (h:wpList P ops Q rest (a.put op.dst v) w'):wpList P ops Q (op::rest) a w:=
 wpList_plain hgd λ_ hK=>by
  unfold Oper.wp execOp
  simp only[ho]
  have e:(Instr.buildSlice ty n (parts.map λ(i,x)=>(i,a.eval x))).run P w = .ok v w':=by rw[hps];exact hv
  simp only[Sem.run_bind,Sem.run_pure,e,Result.andThen_ok]
  exact hK _ _ h
end
theorem app3_at {A B C:Array Value} (hA:A.size=18) (hB:B.size=18) (j:Nat) (hj:j<18):(A++B++C)[j]?=A[j]?∧(A++B++C)[18+j]?=B[j]?∧(A++B++C)[36+j]?=C[j]?:=by
 have hAB:(A++B).size=36:=by rw[Array.size_append,hA,hB]
 refine⟨?_,?_,?_⟩
 ·rw[Array.getElem?_append_left (by omega),Array.getElem?_append_left (by omega)]
 ·rw[Array.getElem?_append_left (by omega),Array.getElem?_append_right (by omega),hA,Nat.add_sub_cancel_left]
 ·rw[Array.getElem?_append_right (by omega),hAB,Nat.add_sub_cancel_left]
theorem srd3 {w:World} {g:Nat} {x y z:Trip} {T:TypeId} {fr:Nat×Nat} (hx:∀t,t∈[x,y,z]→ScalT t) (h:w.heap[g]?=some (.cells (cellsT x nilS++cellsT y nilS++cellsT z nilS) T fr)):SRd 18 TrR w (λb=>b=g) [x,y,z] (some ⟨g,0,none⟩) 3:=by
 refine⟨rfl,λ_=>⟨_,rfl,rfl,λi t hi=>⟨cellsT t nilS,rfl,λj hj=>?_,nilS,rfl,λn _=>?_⟩⟩⟩
 ·rw[Addr.add_mid,Nat.zero_add,cell_of_row w g (i*18+j) _ T fr h]
  have ha:=app3_at (C:=cellsT z nilS) (cellsT_size x nilS) (cellsT_size y nilS) j hj
  match i,hi with
  | 0,hi=>
   have hi:x=t:=Option.some.inj hi
   rw[←hi]
   rw[Nat.zero_mul,Nat.zero_add]
   exact ha.1
  | 1,hi=>
   have hi:y=t:=Option.some.inj hi
   rw[←hi]
   exact ha.2.1
  | 2,hi=>
   have hi:z=t:=Option.some.inj hi
   rw[←hi]
   exact ha.2.2
  | k+3,hi=>cases hi
 ·have hs:=(hx t (List.mem_of_getElem? hi)).get n
  have hl:=scal_list hs
  have:=VRd.mk (w:=w) (F:=λb=>b=g) (t.get n) none 0 ⟨0,0,none⟩ (λ_=>#[]) (by rw[hl];exact Nat.le_refl _) (by rw[hl];intro h;cases h) (by rw[hl];intro i h;cases h) (by rw[hl];intro i x h;simp at h)
  rw[hl]at this
  exact this
set_option maxRecDepth 100000 in
set_option maxHeartbeats 8000000 in
theorem wakes5_any (w:World) (hgb:GlobB w) (hgt:GlobT w):Calls Tryz.prog 10 #[] w λe w'=>e = .returned (.bool true)∧Below w.heap.size w w':=by
 have HG:=hid (And.intro hgb hgt)
 clear hgb hgt
 obtain⟨ua,Ha⟩:=name6 (iriV ⟨#[97]⟩) (.slice none 0 0)
 obtain⟨up,Hp⟩:=name6 (iriV ⟨#[112]⟩) (.slice none 0 0)
 obtain⟨ub,Hb⟩:=name6 (iriV ⟨#[98]⟩) (.slice none 0 0)
 obtain⟨uc,Hc⟩:=name6 (iriV ⟨#[99]⟩) (.slice none 0 0)
 obtain⟨uq,Hq⟩:=name6 (iriV ⟨#[113]⟩) (.slice none 0 0)
 obtain⟨r1,HR1⟩:=name18 wk1 nilS
 have HT1:=hid (λW:World=>(show (Instr.build 41 #[(0,.agg ua),(1,.agg up),(2,.agg ub)]).run Tryz.prog W = .ok (.agg r1) W from by rw[←Ha.out,←Hp.out,←Hb.out,←HR1.out];exact build_tr wk1 W))
 obtain⟨r2,HR2⟩:=name18 wk2 nilS
 have HT2:=hid (λW:World=>(show (Instr.build 41 #[(0,.agg ua),(1,.agg up),(2,.agg uc)]).run Tryz.prog W = .ok (.agg r2) W from by rw[←Ha.out,←Hp.out,←Hc.out,←HR2.out];exact build_tr wk2 W))
 obtain⟨r3,HR3⟩:=name18 wk3 nilS
 have HT3:=hid (λW:World=>(show (Instr.build 41 #[(0,.agg ub),(1,.agg uq),(2,.agg uc)]).run Tryz.prog W = .ok (.agg r3) W from by rw[←Hb.out,←Hq.out,←Hc.out,←HR3.out];exact build_tr wk3 W))
 have HBS:=hid (λW:World=>(show (Instr.buildSlice 22 3 #[(0,.agg r1),(1,.agg r2),(2,.agg r3)]).run Tryz.prog W = .ok (.slice (some ⟨W.heap.size,0,none⟩) 3 3) (W.alloc (.cells (cellsT wk1 nilS++cellsT wk2 nilS++cellsT wk3 nilS) 41)) from by rw[←HR1.out,←HR2.out,←HR3.out];exact bs3_list wk1 wk2 wk3 W))
 clear HR1 HR2 HR3
 go_enter Tryz.func10,Tryz.ntmps10
 go_wp2_with fail
 refine (iri5_any _ _).mono ?_
 unfold IriIs
 rintro e w1 ⟨rfl,hb⟩
 have HB1:=hid hb
 clear hb
 rw[Ha.out]
 go_wp2_with fail
 refine (iri5_any _ _).mono ?_
 unfold IriIs
 rintro e w2 ⟨rfl,hb⟩
 have HB2:=hid (HB1.out.trans (hb.mono HB1.out.size))
 clear hb
 rw[Hp.out]
 go_wp2_with fail
 refine (iri5_any _ _).mono ?_
 unfold IriIs
 rintro e w3 ⟨rfl,hb⟩
 have HB3:=hid (HB2.out.trans (hb.mono HB2.out.size))
 clear hb
 rw[Hb.out]
 go_wp2_with ((with_reducible refine at_dst (some 10) ?_);refine build_arm rfl 41 _ rfl #[(0,.agg ua),(1,.agg up),(2,.agg ub)] (by kernel_rfl) (.agg r1) (HT1.out _) ?_)
 refine (iri5_any _ _).mono ?_
 unfold IriIs
 rintro e w4 ⟨rfl,hb⟩
 have HB4:=hid (HB3.out.trans (hb.mono HB3.out.size))
 clear hb
 rw[Ha.out]
 go_wp2_with fail
 refine (iri5_any _ _).mono ?_
 unfold IriIs
 rintro e w5 ⟨rfl,hb⟩
 have HB5:=hid (HB4.out.trans (hb.mono HB4.out.size))
 clear hb
 rw[Hp.out]
 go_wp2_with fail
 refine (iri5_any _ _).mono ?_
 unfold IriIs
 rintro e w6 ⟨rfl,hb⟩
 have HB6:=hid (HB5.out.trans (hb.mono HB5.out.size))
 clear hb
 rw[Hc.out]
 go_wp2_with ((with_reducible refine at_dst (some 14) ?_);refine build_arm rfl 41 _ rfl #[(0,.agg ua),(1,.agg up),(2,.agg uc)] (by kernel_rfl) (.agg r2) (HT2.out _) ?_)
 refine (iri5_any _ _).mono ?_
 unfold IriIs
 rintro e w7 ⟨rfl,hb⟩
 have HB7:=hid (HB6.out.trans (hb.mono HB6.out.size))
 clear hb
 rw[Hb.out]
 go_wp2_with fail
 refine (iri5_any _ _).mono ?_
 unfold IriIs
 rintro e w8 ⟨rfl,hb⟩
 have HB8:=hid (HB7.out.trans (hb.mono HB7.out.size))
 clear hb
 rw[Hq.out]
 go_wp2_with fail
 refine (iri5_any _ _).mono ?_
 unfold IriIs
 rintro e w9 ⟨rfl,hb⟩
 have HB9:=hid (HB8.out.trans (hb.mono HB8.out.size))
 clear hb
 rw[Hc.out]
 obtain⟨zl,Hzl⟩:=name_itV w9.heap.size
 obtain⟨wl,HWL⟩:=name_itV (w9.alloc (.cells (cellsT wk1 nilS++cellsT wk2 nilS++cellsT wk3 nilS) 41))
 have HBL:=hid (show Below w.heap.size w wl from by rw[←HWL.out];exact HB9.out.alloc HB9.out.size _)
 have HSL:=hid (show wl.heap[zl]?=some (.cells (cellsT wk1 nilS++cellsT wk2 nilS++cellsT wk3 nilS) 41 (0,0)) from by rw[←HWL.out,←Hzl.out];exact heap_alloc_new w9 _)
 have HZL:=hid (show w.heap.size≤zl from by rw[←Hzl.out];exact HB9.out.size)
 have HBS9:=hid (show (Instr.buildSlice 22 3 #[(0,.agg r1),(1,.agg r2),(2,.agg r3)]).run Tryz.prog w9 = .ok (.slice (some ⟨zl,0,none⟩) 3 3) wl from by rw[←Hzl.out,←HWL.out];exact HBS.out w9)
 clear HWL Hzl HBS
 go_wp2_with (first
  | ((with_reducible refine at_dst (some 18) ?_);refine build_arm rfl 41 _ rfl #[(0,.agg ub),(1,.agg uq),(2,.agg uc)] (by kernel_rfl) (.agg r3) (HT3.out _) ?_)
  | ((with_reducible refine at_dst (some 19) ?_);refine bs_arm rfl 22 3 _ rfl #[(0,.agg r1),(1,.agg r2),(2,.agg r3)] (by kernel_rfl) (.slice (some ⟨zl,0,none⟩) 3 3) wl HBS9.out ?_))
 refine (loadT_any [wk1,wk2,wk3] wk_ok (λb=>b=zl) (some ⟨zl,0,none⟩) 3 3 wl (λg hg=>by have hg:g=zl:=hg;rw[hg];exact blk_lt HSL.out) (srd3 wk_scal HSL.out) (by omega) (glob_under HG.out.1 HBL.out) (globT_under HG.out.2 HBL.out)).mono ?_
 rintro e v1 (⟨hno,_⟩ | ⟨_,_,c,rfl,hb,hs⟩)
 ·exact absurd ⟨by decide,by rw[List.all_eq_true];exact wk_may⟩ hno
 rw[wk_load]at hs
 have HS:=hid hs
 have HV1:=hid (HBL.out.trans (hb.mono HBL.out.size))
 have HFL:=hid (λb (h:wl.heap.size≤b∧b<v1.heap.size)=>h.2)
 clear hs hb
 obtain⟨F,HFN⟩:=name_itV (λb=>wl.heap.size≤b∧b<v1.heap.size)
 rw[HFN.out]at HS
 have HFL:=hid (show ∀b,F b→b<v1.heap.size from by rw[←HFN.out];exact λb h=>h.2)
 clear HFN
 go_wp2_with fail
 refine (len_any HS.out).mono ?_
 rintro e _ ⟨rfl,rfl⟩
 rw[show (([wk1,wk2,wk3].length:Nat):Int)=3 from rfl]
 go_wp2_with fail
 refine (cursor_any HS.out HFL.out 3 (by omega)).mono ?_
 rintro e v2 ⟨q,rfl,hc,hb,hq⟩
 have HC2:=hid hc
 have HV2:=hid (HV1.out.trans (hb.mono HV1.out.size))
 have HQ:=hid (show w.heap.size≤q from Nat.le_trans HV1.out.size hq)
 clear hc hb hq
 go_wp2_with fail
 have hop:=open_any HC2.out (glob_under HG.out.1 HV2.out) (globT_under HG.out.2 HV2.out)
 rw[wk_s1]at hop
 refine hop.mono ?_
 unfold CurDo
 rintro e v3 ⟨rfl,hc,ht⟩
 dsimp only at hc
 have HC3:=hid hc
 have HV3:=hid (below_turn HV2.out ht (λb hb=>by have hb:b=q:=hb;rw[hb];exact HQ.out))
 clear hop hc ht
 dsimp only
 go_wp2_with fail
 have hop:=keyC_any HC3.out
 rw[show keyA ⟨[iriV ⟨#[112]⟩],false⟩=some (iriV ⟨#[112]⟩) from rfl]at hop
 refine hop.mono ?_
 unfold KeyRes
 rintro e v4 ⟨A0,cap0,rfl,hb⟩
 rw[show (some (iriV ⟨#[112]⟩)).getD valZ=iriV ⟨#[112]⟩ from rfl,show (some (iriV ⟨#[112]⟩)).isSome=true from rfl]
 obtain⟨uk,Huk⟩:=name6 (iriV ⟨#[112]⟩) (.slice A0 0 cap0)
 rw[Huk.out]
 have HC4:=hid (HC3.out.on hb)
 have HV4:=hid (HV3.out.trans (hb.mono HV3.out.size))
 clear hop hb
 obtain⟨zk,Hzk⟩:=name_itV v4.heap.size
 obtain⟨vb,HWB⟩:=name_itV (v4.alloc (.cells #[.int .i64 0,.bool false,.int .i64 0,.string ⟨#[]⟩,.string ⟨#[]⟩,.slice none 0 0] 39))
 have HBZ:=hid (show Below v4.heap.size v4 vb from by rw[←HWB.out];exact (Below.refl _ _).alloc (Nat.le_refl _) _)
 have HVZ:=hid (show vb.heap[zk]?=some (.cells #[.int .i64 0,.bool false,.int .i64 0,.string ⟨#[]⟩,.string ⟨#[]⟩,.slice none 0 0] 39 (0,0)) from by rw[←HWB.out,←Hzk.out];exact heap_alloc_new v4 _)
 have SL:=hid (show uk.size=(#[.int .i64 0,.bool false,.int .i64 0,.string ⟨#[]⟩,.string ⟨#[]⟩,.slice none 0 0]:Array Value).size from by rw[Huk.size];rfl)
 have IL:=hid (show (Tryz.prog.info? 39).map (·.size)=some uk.size from infoV6.trans (congrArg some Huk.size.symm))
 have OL:=hid (show uk.all (·.oneCell')=true from by rw[←Huk.out];kernel_rfl)
 have K3:=hid (show uk[3]?=some (.string ⟨#[112]⟩) from by rw[←Huk.out];rfl)
 go_upto_region 8 with ((with_reducible refine at_st 4 ?_);rw[HWB.out,Hzk.out];refine st_row rfl 39 _ _ rfl zk (#[.int .i64 0,.bool false,.int .i64 0,.string ⟨#[]⟩,.string ⟨#[]⟩,.slice none 0 0]) uk 39 rfl rfl HVZ.out SL.out IL.out OL.out ?_;intro v5 hw5 ht5)
 have HB5:=hid (below_turn HBZ.out ht5 (λb hb=>by have hb:b=zk:=hb;have:=Hzk.out;omega))
 have k3:v5.cell? ⟨zk,3,none⟩=some (.string ⟨#[112]⟩):=(cell_of_row v5 zk 3 uk _ _ hw5).trans K3.out
 have HC5:=hid (HC4.out.on HB5.out)
 have HV5:=hid (HV4.out.trans (HB5.out.mono HV4.out.size))
 clear ht5 HWB
 go_wp2_with fail
 have hop:=open_any HC5.out (glob_under HG.out.1 HV5.out) (globT_under HG.out.2 HV5.out)
 rw[wk_s2]at hop
 refine hop.mono ?_
 unfold CurDo
 rintro e v6 ⟨rfl,hc,ht⟩
 dsimp only at hc
 have HC6:=hid hc
 have HV6:=hid (below_turn HV5.out ht (λb hb=>by have hb:b=q:=hb;rw[hb];exact HQ.out))
 clear hop hc ht k3 hw5
 dsimp only
 go_wp2_with fail
 have hop:=next_any HC6.out (glob_under HG.out.1 HV6.out) (globT_under HG.out.2 HV6.out)
 rw[wk_s3]at hop
 refine hop.mono ?_
 unfold CurDo
 rintro e v7 ⟨rfl,hc,ht⟩
 dsimp only at hc
 have HC7:=hid hc
 have HV7:=hid (below_turn HV6.out ht (λb hb=>by have hb:b=q:=hb;rw[hb];exact HQ.out))
 clear hop hc ht
 dsimp only
 go_wp2_with fail
 have hop:=next_any HC7.out (glob_under HG.out.1 HV7.out) (globT_under HG.out.2 HV7.out)
 rw[wk_s4]at hop
 refine hop.mono ?_
 unfold CurDo
 rintro e v8 ⟨rfl,hc,ht⟩
 dsimp only at hc
 have HC8:=hid hc
 have HV8:=hid (below_turn HV7.out ht (λb hb=>by have hb:b=q:=hb;rw[hb];exact HQ.out))
 clear hop hc ht
 dsimp only
 go_wp2_with fail
 have hop:=up_any HC8.out
 rw[wk_s5]at hop
 refine hop.mono ?_
 unfold CurDo
 rintro e v9 ⟨rfl,hc,ht⟩
 dsimp only at hc
 have HC9:=hid hc
 have HV9:=hid (below_turn HV8.out ht (λb hb=>by have hb:b=q:=hb;rw[hb];exact HQ.out))
 clear hop hc ht
 dsimp only
 go_wp2_with fail
 have hop:=next_any HC9.out (glob_under HG.out.1 HV9.out) (globT_under HG.out.2 HV9.out)
 rw[wk_s6]at hop
 refine hop.mono ?_
 unfold CurDo
 rintro e v10 ⟨rfl,hc,ht⟩
 dsimp only at hc
 have HC10:=hid hc
 have HV10:=hid (below_turn HV9.out ht (λb hb=>by have hb:b=q:=hb;rw[hb];exact HQ.out))
 clear hop hc ht
 dsimp only
 go_wp2_with fail
 refine (depth_any HC10.out).mono ?_
 rintro e _ ⟨rfl,rfl⟩
 rw[show ((([iriV ⟨#[113]⟩]:List Val).length:Nat):Int)=1 from rfl]
 go_wp2_with fail
 go_ret
 exact⟨rfl,HV10.out⟩
def Trip.set (t:Trip) (p:Nat) (v:Val):Trip:=if p=0 then ⟨v,t.p,t.o⟩ else if p=1 then ⟨t.s,v,t.o⟩ else ⟨t.s,t.p,v⟩
end Go.Proofs.YtefhfadjajcmkaaGreatDoor
namespace Go.Proofs.YtefhfadjajcmkaaGreatDoor
open Go
open Go.Lib (hid cell_of_heap)
section
variable {T:List Trip} {w:Way}
end
def wv (w:Way) (t:Trip) (d:Nat):List Val:=[t.get (w.get 0),t.get (w.get 1),t.get (w.get 2)].take d
section
variable {T K:List Trip} {w:Way}
theorem wv_len (t:Trip) {d:Nat} (hd:d≤3):(wv w t d).length=d:=by
 unfold wv
 rw[List.length_take]
 simp only[List.length_cons,List.length_nil]
 omega
def DnA (K:List Trip) (w:Way) (m d:Nat) (c:CurA):Prop:=∃t,K[m]?=some t∧d<3∧c=⟨wv w t d,false⟩∧∀n u,n<m→K[n]?=some u→¬Begins w (wv w t d) u
def UpA (K:List Trip) (w:Way) (m d:Nat) (c:CurA):Prop:=∃s,K[m]?=some s∧d<3∧c=⟨wv w s (d+1),false⟩∧∀n u,m<n→K[n]?=some u→¬Begins w (wv w s (d+1)) u
theorem dn_start (hn:0<K.length):DnA K w 0 0 ⟨[],false⟩:=⟨K[0],List.getElem?_eq_getElem hn,by omega,rfl,λn u h=>absurd h (by omega)⟩
end
end Go.Proofs.YtefhfadjajcmkaaGreatDoor
namespace Go.Proofs.YtefhfadjajcmkaaGreatDoor
open Go Go.RowKit Go.Maps
open Go.Lib (hid cell_of_heap)
theorem infoTrs:(Tryz.prog.info? 41).map (λi=>(i.zero,i.size,i.bytes))=some (some (.agg #[.int .i64 0,.bool false,.int .i64 0,.string ⟨#[]⟩,.string ⟨#[]⟩,.slice none 0 0,.int .i64 0,.bool false,.int .i64 0,.string ⟨#[]⟩,.string ⟨#[]⟩,.slice none 0 0,.int .i64 0,.bool false,.int .i64 0,.string ⟨#[]⟩,.string ⟨#[]⟩,.slice none 0 0]),18,240):=by kernel_rfl
theorem wp_app_L {op:Oper} {a:Act} {K:Act→World→Prop} {Q:Exit→Act→World→Prop} (s x:Operand) (ho:op.op = .call { callee:=.builtin .append,args:=#[s,x],argTypes:=#[22,22] })
    {wr:World} {F:Nat→Prop} {L:List Trip} {S:Value} {t:Trip} {c:Array Value} {n:Nat} (hS:a.eval s=S) (hown:SOwn 41 18 TrS wr F L S) (hL:L.length=n) (hx:a.eval x = .slice (some ⟨wr.heap.size,0,none⟩) 1 1) (hc:∀w F,TrS w F t c) (hlen:n≤1000000) (hF:∀b,F b→b<wr.heap.size)
    (h:∀g cap w',SOwn 41 18 TrS w' (λb=>F b∨b=g) (L++[t]) (.slice (some ⟨g,0,none⟩) (n+1) cap)→wr.grownBy w' S.ownBlock→(S.ownBlock=some g∨wr.heap.size≤g)→g<w'.heap.size→K (a.put op.dst (.slice (some ⟨g,0,none⟩) (n+1) cap)) w') :
    op.wp Tryz.prog a (wr.alloc (.cells c 41)) K Q:=by
 subst hL
 obtain⟨i0,hi,hz0,hz1,hz2⟩:=info_parts infoTrs
 obtain⟨cs,hrow,h6,hFw,hr⟩:=hown
 have hc18:c.size=18:=by obtain⟨_,_,ss,_,e⟩:=hc wr F;rw[e];rfl
 have hc1:∀u∈c.toList,u.oneCell'=true:=by
  obtain⟨_,_,ss,hs,e⟩:=hc wr F
  rw[e]
  exact cellsT_one t ss λq hq=>by obtain⟨A,cp,e⟩:=hs q hq;exact⟨A,0,cp,e⟩
 refine wp_append_lies _ s x _ ho 0 41 i0 _ 18 240 Tryz.underlying22 hi hz0 hz1 hz2 rfl (by decide) S L.length (flatC cs L.length) hS (hrow.alloc _) ⟨wr.heap.size,0,none⟩ 1 1 c.toList hx (by rw[Array.length_toList,hc18]) (World.news_of_block (heap_alloc_new wr _)) hc1 (by omega) (by unfold maxLen;omega) (by omega) (Nat.zero_le _) (wr.heap.size+1) (by simp) (λg cap w' h1 h2 h3 h4=>?_)
 have hg:=grown_after h2
 have hl:S.ownBlock=some g∨wr.heap.size≤g:=h3.imp id (λe=>by rw[e];omega)
 have hsn:=SOwn.snoc (x:=t) (c:=c) (G:=λ_=>False) TrS.good ⟨cs,hrow,h6,hFw,hr⟩ (hc _ _) hc18 (λb hb=>hb.elim) hF (λb hb=>hb.elim) (λcs' h'=>by rw[own_inj h' hrow];exact h1) hg hl
 exact h g cap w' (hsn.mono TrS.good λb hb=>by rcases hb with hb | hb | hb;exact .inl hb;exact hb.elim;exact .inr hb) hg hl h4
theorem bs1_list (x0 x1 x2 x3 x4 x5 x6 x7 x8 x9 x10 x11 x12 x13 x14 x15 x16 x17:Value) (w:World):(Instr.buildSlice 22 1 #[(0,.agg #[x0,x1,x2,x3,x4,x5,x6,x7,x8,x9,x10,x11,x12,x13,x14,x15,x16,x17])]).run Tryz.prog w = .ok (.slice (some ⟨w.heap.size,0,none⟩) 1 1) (w.alloc (.cells #[x0,x1,x2,x3,x4,x5,x6,x7,x8,x9,x10,x11,x12,x13,x14,x15,x16,x17] 41)):=by kernel_rfl
theorem bs1_run (c:Array Value) (hc:c.size=18) (w:World):(Instr.buildSlice 22 1 #[(0,.agg c)]).run Tryz.prog w = .ok (.slice (some ⟨w.heap.size,0,none⟩) 1 1) (w.alloc (.cells c 41)):=by
 obtain⟨l⟩:=c
 match l,hc with
 | [x0,x1,x2,x3,x4,x5,x6,x7,x8,x9,x10,x11,x12,x13,x14,x15,x16,x17],_=>exact bs1_list x0 x1 x2 x3 x4 x5 x6 x7 x8 x9 x10 x11 x12 x13 x14 x15 x16 x17 w
end Go.Proofs.YtefhfadjajcmkaaGreatDoor
namespace Go.Proofs.YtefhfadjajcmkaaGreatDoor
open Go
open Go.Lib (hid cell_of_heap)
def WkA (K:List Trip) (w:Way) (m d:Nat) (c:CurA) (wt:Trip) (G:List Trip):Prop:=DnA K w m d c∧(∀t,K[m]?=some t→∀e,e<d→wt.get e=t.get (w.get e))∧G=K.take m
def WkB (K:List Trip) (w:Way) (m d:Nat) (c:CurA) (wt:Trip) (G:List Trip):Prop:=UpA K w m d c∧(∀t,K[m]?=some t→∀e,e<d+1→wt.get e=t.get (w.get e))∧G=K.take (m+1)
section
variable {T K:List Trip} {w:Way} {m d:Nat} {c:CurA} {wt:Trip} {G:List Trip}
theorem WkA.start (hn:0<K.length) (wt:Trip):WkA K w 0 0 ⟨[],false⟩ wt []:=⟨dn_start hn,λ_ _ e he=>absurd he (by omega),rfl⟩
theorem WkA.len (h:WkA K w m d c wt G):c.way.length=d∧d<3∧m<K.length:=by
 obtain⟨⟨t,ht,hd,rfl,_⟩,_,_⟩:=h
 exact⟨wv_len t (by omega),hd,(List.getElem?_eq_some_iff.1 ht).1⟩
theorem WkB.len (h:WkB K w m d c wt G):c.way.length=d+1∧d<3∧m<K.length:=by
 obtain⟨⟨t,ht,hd,rfl,_⟩,_,_⟩:=h
 exact⟨wv_len t (by omega),hd,(List.getElem?_eq_some_iff.1 ht).1⟩
def posA (m d:Nat):Nat:=8*m+d
def posB (m d:Nat):Nat:=8*m+5-d
end
end Go.Proofs.YtefhfadjajcmkaaGreatDoor
namespace Go.Proofs.YtefhfadjajcmkaaGreatDoor
open Go Go.RowKit Go.Maps
open Go.Lib (hid cell_of_heap)
def OpR:Lies (Int×Val):=λw F o c=>∃s,c=#[.int .i64 o.1]++cellsV o.2 s∧VRd w F o.2 (.agg (cellsV o.2 s))
theorem OpR.good:OpR.Good:=⟨fun⟨s,e,h⟩ hk=>⟨s,e,h.keep hk⟩,fun⟨s,e,h⟩ hF=>⟨s,e,h.mono hF⟩⟩
theorem OpR.cells {w:World} {F:Nat→Prop} {L:List (Int×Val)} {A:Option Addr} {n:Nat} (h:SRd 7 OpR w F L A n) {k:Nat} {o:Int×Val} (ho:L[k]?=some o) :
    ∃ad s,A=some ad∧F ad.block∧w.cell? (ad.add (k*7))=some (.int .i64 o.1)∧(∀j,j<(cellsV o.2 s).size→w.cell? (((ad.add (k*7)).add 1).add j)=(cellsV o.2 s)[j]?)∧VRd w F o.2 (.agg (cellsV o.2 s)):=by
 obtain⟨ad,c,e,hF,hs,hc,s,rfl,hr⟩:=h.at_ ho
 refine⟨ad,s,e,hF,?_,λj hj=>?_,hr⟩
 ·have:=hc 0 (by omega)
  rw[Nat.add_zero]at this
  rw[this]
  rfl
 ·have hj:j<6:=hj
  have:=hc (1+j) (by omega)
  rw[add_of_add,add_of_add,this,Array.getElem?_append_right (by show 1≤1+j;omega)]
  congr 1
  show 1+j-1=j
  omega
structure Two (F:Nat→Prop) (w0:World) (q1 q2 j:Nat) (T:List Trip) (c d:CurA) (wx:World):Prop where
 b:Below w0.heap.size w0 wx
 c1:CurRd F wx q1 j T c
 c2:CurRd F wx q2 j T d
 ne:q1≠q2
 l1:w0.heap.size≤q1
 l2:w0.heap.size≤q2
section
variable {F:Nat→Prop} {w0 w w':World} {q1 q2 j:Nat} {T:List Trip} {c d:CurA}
theorem CurRd.turn {q:Nat} (h:CurRd F w q j T c) {S:Nat→Prop} (ht:Turn S w w') (h1:∀b,F b→¬S b) (h2:¬S q):CurRd F w' q j T c:=by
 obtain⟨cc,ix,cs,S,s,at_,en,hw,hn⟩:=h
 exact⟨cc,ix,cs,S,s,at_,en,hw.turn ht h1 h2,hn⟩
theorem CurRd.lt {q:Nat} (h:CurRd F w q j T c):q<w.heap.size:=by
 obtain⟨cc,ix,cs,S,s,at_,en,hw,hn⟩:=h
 exact blk_lt hw.cur
theorem Two.on (h:Two F w0 q1 q2 j T c d w) (hb:Below w.heap.size w w'):Two F w0 q1 q2 j T c d w':=
 ⟨h.b.trans (hb.mono h.b.size),h.c1.on hb,h.c2.on hb,h.ne,h.l1,h.l2⟩
end
theorem scal_rd (w:World) (F:Nat→Prop) {v:Val} (h:v.list=[]) (A:Option Addr) (cap:Nat):VRd w F v (.agg (cellsV v (.slice A 0 cap))):=by
 have:=VRd.mk (w:=w) (F:=F) v A cap ⟨0,0,none⟩ (λ_=>#[]) (by rw[h];exact Nat.zero_le _) (by rw[h];intro h;cases h) (by rw[h];intro i h;cases h) (by rw[h];intro i x h;simp at h)
 rw[h]at this
 exact this
theorem sameW_any (a b:Val) (hs:sizeL a.list≤999999999) (F G:Nat→Prop) (u1 u2:Value) (w:World) (hF:∀g,F g→g<w.heap.size) (hG:∀g,G g→g<w.heap.size) (h1:VRd w F a u1) (h2:VRd w G b u2) :
    Calls Tryz.prog 22 #[u1,u2] w (ToldB (sameB a b) w):=by
 obtain⟨A,ca,rfl,_,la⟩:=h1.inv
 obtain⟨B,cb,rfl,_,lb⟩:=h2.inv
 exact same_step a b A B ca cb w hF hG la lb (λw' x1 x2 x3 x4=>row_any (sizeL a.list+1) a.list b.list (by omega) F G A B _ _ ca cb w' (by omega) x3 x4 x1 x2)
structure KeyV (v:Val):Prop where
 list:v.list=[]
 fit:FitV v
 k5:v.kind≠5
section
variable {P:Program} {ops:Array Oper} {rest:List Oper} {op:Oper} {a:Act} {w:World} {Q:Exit→Act→World→Prop}
theorem ld_armG (hgd:Region.wanted op (yielded ops a.tmps)=true) (ty:TypeId) (x:Operand) (ho:op.op = .load ty x) {p:Addr} (hx:a.eval x = .pointer (some p)) (c:Array Value) (d:TypeDesc) (hc:∀j,j<c.size→w.cell? (p.add j)=c[j]?)
    (hu:P.underlying ty=some d) (hd:d.isRow=true) (hi:(P.info? ty).map (·.size)=some c.size) (h:wpList P ops Q rest (a.put op.dst (.agg c)) w):wpList P ops Q (op::rest) a w:=
 wpList_step λK hK=>by
  rw[if_pos hgd]
  unfold Oper.wp execOp
  simp only[ho,hx,Instr.loadAt,Instr.sureAddr,Sem.run_bind,Sem.run_pure,Result.andThen_ok,run_loadVar_at w p ty c d hc hu hd hi]
  exact hK _ _ h
end
theorem add_blk (a:Addr) (j:Nat):(a.add j).block=a.block:=by
 unfold Addr.add
 split<;>rfl
theorem rowT_cells {w:World} {F:Nat→Prop} {cs:Nat→Array Value} {T:List Trip} {A:Option Addr} {n cap:Nat} (h:RowT F w cs T (.slice A n cap)) {k:Nat} {t:Trip} (ht:T[k]?=some t) :
    ∃ad ss,A=some ad∧F ad.block∧(∀i,i<3→∃A cap,ss i = .slice A 0 cap)∧∀j,j<(cellsT t ss).size→w.cell? ((ad.add (k*18)).add j)=(cellsT t ss)[j]?:=by
 obtain⟨h0,A',cap',e,_,h2⟩:=h
 injection e with e1 e2 e3
 have hk:=(List.getElem?_eq_some_iff.1 ht).1
 obtain⟨r,e4,hF,hc⟩:=h2 (by omega)
 obtain⟨_,_,ss,hss,hcs⟩:=h0 k t ht
 refine⟨⟨r,0,none⟩,ss,by rw[e1,e4],hF,hss,λj hj=>?_⟩
 rw[add_of_add,Addr.add_mid,Nat.zero_add,←hcs]
 exact hc k hk j hj
theorem rowT_len {w:World} {F:Nat→Prop} {cs:Nat→Array Value} {T:List Trip} {S:Value} (h:RowT F w cs T S):∃A cap,S = .slice A T.length cap:=by
 obtain⟨_,A,cap,e,_,_⟩:=h
 exact⟨A,cap,e⟩
theorem build_trp (t:Trip) (ss:Nat→Value) (W:World):(Instr.build 41 #[(0,.agg (cellsV (t.get 0) (ss 0))),(1,.agg (cellsV (t.get 1) (ss 1))),(2,.agg (cellsV (t.get 2) (ss 2)))]).run Tryz.prog W = .ok (.agg (cellsT t ss)) W:=by kernel_rfl
def AllIs (T:List Trip) (w:World) (e:Ending) (w':World):Prop:=∃v,e = .returned v∧SOwn 41 18 TrS w' (λb=>w.heap.size≤b∧b<w'.heap.size) T v∧Below w.heap.size w w'
structure AllM (w:World) (T:List Trip) (S:Value) (wx:World):Prop where
 hb:Below w.heap.size w wx
 own:SOwn 41 18 TrS wx (λb=>w.heap.size≤b∧b<wx.heap.size) T S
theorem AllM.on {w wx w':World} {T:List Trip} {S:Value} (h:AllM w T S wx) (hb:Below wx.heap.size wx w'):AllM w T S w':=
 ⟨h.hb.trans (hb.mono h.hb.size),(h.own.turn TrS.good (Turn.of_below hb) (λb hb=>hb.2) (λb hb=>λe=>by have e:wx.heap.size≤b:=e;have:=hb.2;omega)).mono TrS.good λb h1=>⟨h1.1,Nat.lt_of_lt_of_le h1.2 hb.size⟩⟩
theorem AllM.more {w wr w':World} {g cap n:Nat} {S:Value} {T:List Trip} {t:Trip} (h:AllM w T S wr) (hg:wr.grownBy w' S.ownBlock) (hl:S.ownBlock=some g∨wr.heap.size≤g) (hgw:g<w'.heap.size)
    (ho:SOwn 41 18 TrS w' (λb=>(w.heap.size≤b∧b<wr.heap.size)∨b=g) (T++[t]) (.slice (some ⟨g,0,none⟩) n cap)):AllM w (T++[t]) (.slice (some ⟨g,0,none⟩) n cap) w':=by
 have hB:∀b,S.ownBlock=some b→w.heap.size≤b∧b<wr.heap.size:=λb hb=>by
  obtain⟨_,_,_,hF,_⟩:=h.own
  exact hF b hb
 refine⟨below_turn h.hb (Turn.of_grown hg) (λb hb=>(hB b hb.symm).1),ho.mono TrS.good λb hb=>?_⟩
 rcases hb with hb | rfl
 ·exact⟨hb.1,Nat.lt_of_lt_of_le hb.2 hg.size⟩
 ·refine⟨?_,hgw⟩
  rcases hl with h1 | h1
  ·exact (hB _ h1).1
  ·exact Nat.le_trans h.hb.size h1
set_option maxRecDepth 100000 in
set_option maxHeartbeats 8000000 in
theorem all_any {F:Nat→Prop} {w:World} {c:Nat} {T:List Trip} (h:StoreAt F w c T) (hF:∀b,F b→b<w.heap.size) :
    Calls Tryz.prog 17 #[.pointer (some ⟨c,0,none⟩)] w (AllIs T w):=by
 obtain⟨S,ss,cs,h1,h2,_⟩:=h.cells
 obtain⟨A,cp,rfl⟩:=rowT_len h2
 have HR:=hid (λ(W:World) (hb:Below w.heap.size w W)=>h2.keep (w':=W) λp hp=>hb.cell (hF _ hp))
 have HS:=hid h.scal
 have HFT:=hid h.fit
 obtain⟨n,Hn⟩:=name_itV T.length
 have HN:=hid (show n≤65536 from by rw[←Hn.out];exact h.len)
 rw[Hn.out]at HR h1
 have c0:w.cell? ⟨c,0,none⟩=some (.slice A n cp):=cell_of_heap h1 0
 have HST:=hid (show AllM w [] (.slice none 0 0) w from ⟨Below.refl _ _,SOwn.nil ..⟩)
 clear h h1 h2 hF
 go_enter Tryz.func17,Tryz.ntmps17
 go_wp2_with fail
 go_loopw [3,11] (λs3 s11 wx=>∃(k:Nat) (S:Value),k≤n∧s11 = .int .i64 (k:Nat)∧S=s3∧Hid (AllM w (T.take k) S wx)) (λ_ s _=>n-(intOf s).toNat)
 case atStart=>exact⟨0,_,by omega,rfl,rfl,HST.out⟩
 case round=>
  obtain⟨k,S,hk,rfl,rfl,hM⟩:=hrel
  by_cases hlt:k<n
  ·obtain⟨t,ht⟩:∃t,T[k]?=some t:=⟨_,List.getElem?_eq_getElem (by rw[Hn.out];exact hlt)⟩
   have HT:=hid ht
   obtain⟨ad,ss,rfl,_,hss,hq⟩:=rowT_cells (HR.out wr hM.out.hb) ht
   have HTR:=hid (λ(w:World) (F:Nat→Prop)=>(show TrS w F t (cellsT t ss) from ⟨HS.out t (List.mem_of_getElem? ht),HFT.out t (List.mem_of_getElem? ht),ss,hss,rfl⟩))
   have HBD:=hid (build_trp t ss)
   have hone:=tr_one (t:=t) hss
   obtain⟨A0,q0,e0⟩:=hss 0 (by omega)
   obtain⟨A1,q1,e1⟩:=hss 1 (by omega)
   obtain⟨A2,q2,e2⟩:=hss 2 (by omega)
   clear ht hss
   obtain⟨c1,Hc1⟩:=name18 t ss
   rw[Hc1.out]at hq hone HTR HBD
   obtain⟨u0,Hu0⟩:=name6 (t.get 0) (ss 0)
   obtain⟨u1,Hu1⟩:=name6 (t.get 1) (ss 1)
   obtain⟨u2,Hu2⟩:=name6 (t.get 2) (ss 2)
   rw[Hu0.out,Hu1.out,Hu2.out]at HBD
   have HQ:=hid hq
   have HONE:=hid hone
   have Z1:=hid Hc1.size
   have Q1:=hid (infoTr.trans (congrArg some Hc1.size.symm))
   have QP:=hid (show (Tryz.prog.info? 99).map (·.size)=some c1.size from by rw[Z1.out];kernel_rfl)
   have IU0:=hid (infoV6.trans (congrArg some Hu0.size.symm))
   have IU1:=hid (infoV6.trans (congrArg some Hu1.size.symm))
   have IU2:=hid (infoV6.trans (congrArg some Hu2.size.symm))
   clear hq hone e0 e1 e2
   have a1:(0:Int)≤k:=by omega
   have a2:(k:Int)<n:=by omega
   have w1:IntKind.i64.wrap ((k:Int)+1)=(k:Int)+1:=IntWalk.i64_in _ (by have:=HN.out;omega)
   obtain⟨zy,Hzy⟩:=name_itV wr.heap.size
   have HBX:=hid (show (wr.alloc (.cells #[.int .i64 0,.bool false,.int .i64 0,.string ⟨#[]⟩,.string ⟨#[]⟩,.slice none 0 0,.int .i64 0,.bool false,.int .i64 0,.string ⟨#[]⟩,.string ⟨#[]⟩,.slice none 0 0,.int .i64 0,.bool false,.int .i64 0,.string ⟨#[]⟩,.string ⟨#[]⟩,.slice none 0 0] 99)).heap[zy]?=some (.cells #[.int .i64 0,.bool false,.int .i64 0,.string ⟨#[]⟩,.string ⟨#[]⟩,.slice none 0 0,.int .i64 0,.bool false,.int .i64 0,.string ⟨#[]⟩,.string ⟨#[]⟩,.slice none 0 0,.int .i64 0,.bool false,.int .i64 0,.string ⟨#[]⟩,.string ⟨#[]⟩,.slice none 0 0] 99 (0,0)) from by rw[←Hzy.out];exact heap_alloc_new wr _)
   go_upto_region 5 with (first
    | ((with_reducible refine at_dst (some 14) ?_);refine ld_armA rfl 99 _ rfl rfl c1 _ HQ.out Tryz.underlying99 rfl QP.out ?_)
    | ((with_reducible refine at_st 5 ?_);refine st_row rfl 99 _ _ rfl zy (#[.int .i64 0,.bool false,.int .i64 0,.string ⟨#[]⟩,.string ⟨#[]⟩,.slice none 0 0,.int .i64 0,.bool false,.int .i64 0,.string ⟨#[]⟩,.string ⟨#[]⟩,.slice none 0 0,.int .i64 0,.bool false,.int .i64 0,.string ⟨#[]⟩,.string ⟨#[]⟩,.slice none 0 0]) c1 99 (by rw[←Hzy.out];rfl) rfl HBX.out Z1.out QP.out HONE.out ?_;intro w5 hw5 ht5))
   rw[Hzy.out]
   have HB5:=hid (show Below wr.heap.size wr w5 from box_below (by rw[Hzy.out];exact ht5))
   have HW5:=hid hw5
   clear hw5 ht5 HQ HBX
   have HM5:=hid (hM.out.on HB5.out)
   have LU0:=hid (λi (hi:i<u0.size)=>(show w5.cell? ((⟨zy,0,none⟩:Addr).add i)=u0[i]? from by
    rw[Addr.add_mid,cell_of_row w5 zy (0+i) c1 _ _ HW5.out,←Hu0.out,←Hc1.out]
    exact cellsT_part t ss 0 (by omega) i (by rwa [Hu0.size]at hi)))
   have LU1:=hid (λi (hi:i<u1.size)=>(show w5.cell? ((⟨zy,6,none⟩:Addr).add i)=u1[i]? from by
    rw[Addr.add_mid,cell_of_row w5 zy (6+i) c1 _ _ HW5.out,←Hu1.out,←Hc1.out]
    exact cellsT_part t ss 1 (by omega) i (by rwa [Hu1.size]at hi)))
   have LU2:=hid (λi (hi:i<u2.size)=>(show w5.cell? ((⟨zy,12,none⟩:Addr).add i)=u2[i]? from by
    rw[Addr.add_mid,cell_of_row w5 zy (12+i) c1 _ _ HW5.out,←Hu2.out,←Hc1.out]
    exact cellsT_part t ss 2 (by omega) i (by rwa [Hu2.size]at hi)))
   go_wp2_with (first
    | ((with_reducible refine at_dst (some 17) ?_);refine ld_armG (by rfl) 39 _ rfl rfl u0 _ LU0.out Tryz.underlying39 rfl IU0.out ?_)
    | ((with_reducible refine at_dst (some 19) ?_);refine ld_armG (by rfl) 39 _ rfl rfl u1 _ LU1.out Tryz.underlying39 rfl IU1.out ?_)
    | ((with_reducible refine at_dst (some 21) ?_);refine ld_armG (by rfl) 39 _ rfl rfl u2 _ LU2.out Tryz.underlying39 rfl IU2.out ?_)
    | ((with_reducible refine at_dst (some 22) ?_);refine build_arm rfl 41 _ rfl #[(0,.agg u0),(1,.agg u1),(2,.agg u2)] (by kernel_rfl) (.agg c1) (HBD.out _) ?_)
    | ((with_reducible refine at_dst (some 23) ?_);refine bs_arm rfl 22 1 _ rfl #[(0,.agg c1)] (by kernel_rfl) (.slice (some ⟨w5.heap.size,0,none⟩) 1 1) _ (bs1_run c1 Z1.out w5) ?_)
    | ((with_reducible refine at_dst (some 24) ?_);refine wpList_plain rfl λK hK=>?_;refine wp_app_L (.tmp 15) (.tmp 23) rfl rfl HM5.out.own (show (T.take k).length=k from by rw[List.length_take,Hn.out];omega) rfl HTR.out (by have:=HN.out;omega) (λb hb=>hb.2) (λg7 c7 w7 ho7 hg7 hl7 hw7=>hK _ _ ?_);clear hK K))
   have HM7:=hid (HM5.out.more hg7 hl7 hw7 ho7)
   clear ho7 hg7 hl7 hw7
   go_wp2_with fail
   go_roundw
   case rel=>exact⟨k+1,_,by omega,by go_num,rfl,hid (by rw[take_oneMore HT.out];exact HM7.out)⟩
   case measure=>simp[intOf];omega
  ·have a2:¬(k:Int)<n:=by omega
   have HE:=hid (show AllIs T w (.returned S) wr from ⟨S,rfl,by have:=hM.out.own;rwa [List.take_of_length_le (by rw[Hn.out];omega)]at this,hM.out.hb⟩)
   go_wp2_with fail
   go_ret
   exact HE.out
theorem sameB_iff {a b:Val}:sameB a b=true↔a=b:=by
 constructor
 ·intro h
  by_cases e:a=b
  ·exact e
  ·rw[sameB_no e]at h;cases h
 ·rintro rfl
  exact sameB_refl _
noncomputable def sameT (a b:Trip):Bool:=sameB (a.get 0) (b.get 0)&&(sameB (a.get 1) (b.get 1)&&sameB (a.get 2) (b.get 2))
theorem sameT_eq {a b:Trip}:sameT a b=true↔a=b:=by
 unfold sameT
 rw[Bool.and_eq_true,Bool.and_eq_true,sameB_iff,sameB_iff,sameB_iff]
 constructor
 ·rintro⟨h0,h1,h2⟩
  exact trip_ext (w:=wayN 0) (wayN_ok 0) h0 h1 h2
 ·rintro rfl
  exact⟨rfl,rfl,rfl⟩
theorem sameT_refl (a:Trip):sameT a a=true:=sameT_eq.2 rfl
def KeyT (t:Trip):Prop:=∀n,KeyV (t.get n)
theorem keyT_of {t:Trip} (h:ScalT t) (hf:∀n,FitV (t.get n)):KeyT t:=λn=>⟨scal_list (h.get n),hf n,by have:=(h.get n).2.1;omega⟩
structure CellT (c:Array Value) (t:Trip):Prop where
 key:KeyT t
 ex:∃ss:Nat→Value,(∀i,i<3→∃A cap,ss i = .slice A 0 cap)∧c=cellsT t ss
theorem TrS.cellT {w:World} {F:Nat→Prop} {t:Trip} {c:Array Value} (h:TrS w F t c):CellT c t:=by
 obtain⟨h1,h2,ss,h3,e⟩:=h
 exact⟨keyT_of h1 h2,ss,h3,e⟩
theorem CellT.size {c:Array Value} {t:Trip} (h:CellT c t):c.size=18:=by
 obtain⟨_,ss,_,rfl⟩:=h
 rfl
set_option maxRecDepth 100000 in
set_option maxHeartbeats 8000000 in
theorem eqTR_any {a b:Trip} {sa sb:Nat→Value} {F G:Nat→Prop} (hsz:∀n,n<3→sizeL (a.get n).list≤999999999) (w:World) (hF:∀g,F g→g<w.heap.size) (hG:∀g,G g→g<w.heap.size)
    (h1:∀n,n<3→VRd w F (a.get n) (.agg (cellsV (a.get n) (sa n)))) (h2:∀n,n<3→VRd w G (b.get n) (.agg (cellsV (b.get n) (sb n)))) :
    Calls Tryz.prog 23 #[.agg (cellsT a sa),.agg (cellsT b sb)] w (ToldB (sameT a b) w):=by
 obtain⟨ca,Hca⟩:=name18 a sa
 obtain⟨cb,Hcb⟩:=name18 b sb
 rw[Hca.out,Hcb.out]
 obtain⟨z,Hz⟩:=name_itV w.heap.size
 obtain⟨w2,HW2⟩:=name_itV ((w.alloc (.cells ca 41)).alloc (.cells cb 41))
 have HB2:=hid (show Below w.heap.size w w2 from by rw[←HW2.out];exact two_new w _ _)
 have HXA:=hid (show w2.heap[z]?=some (.cells ca 41 (0,0)) from by rw[←HW2.out,←Hz.out];exact heap_alloc2_old w _ _)
 have HXB:=hid (show w2.heap[z+1]?=some (.cells cb 41 (0,0)) from by rw[←HW2.out,←Hz.out];exact heap_alloc2_new w _ _)
 have HPOST:=hid (show ∀W,Below w2.heap.size w2 W→Below w.heap.size w W from λW hb=>HB2.out.trans (hb.mono HB2.out.size))
 obtain⟨u0,Hu0⟩:=name6 (a.get 0) (sa 0)
 obtain⟨v0,Hv0⟩:=name6 (b.get 0) (sb 0)
 have IU0:=hid (infoV6.trans (congrArg some Hu0.size.symm))
 have IV0:=hid (infoV6.trans (congrArg some Hv0.size.symm))
 have LU0:=hid (λ(W:World) (hb:Below w2.heap.size w2 W) i (hi:i<u0.size)=>(show W.cell? ((⟨z,0,none⟩:Addr).add i)=u0[i]? from by
  rw[Addr.add_mid,cell_of_row W z (0+i) ca _ _ ((hb.block z (blk_lt HXA.out)).trans HXA.out),←Hu0.out,←Hca.out]
  exact cellsT_part a sa 0 (by omega) i (by rwa [Hu0.size]at hi)))
 have LV0:=hid (λ(W:World) (hb:Below w2.heap.size w2 W) i (hi:i<v0.size)=>(show W.cell? ((⟨z+1,0,none⟩:Addr).add i)=v0[i]? from by
  rw[Addr.add_mid,cell_of_row W (z+1) (0+i) cb _ _ ((hb.block (z+1) (blk_lt HXB.out)).trans HXB.out),←Hv0.out,←Hcb.out]
  exact cellsT_part b sb 0 (by omega) i (by rwa [Hv0.size]at hi)))
 have hs0:=λ(W:World) (hb:Below w.heap.size w W)=>sameW_any (a.get 0) (b.get 0) (hsz 0 (by omega)) F G _ _ W (λg h=>Nat.lt_of_lt_of_le (hF g h) hb.size) (λg h=>Nat.lt_of_lt_of_le (hG g h) hb.size) ((h1 0 (by omega)).under hb hF) ((h2 0 (by omega)).under hb hG)
 rw[Hu0.out,Hv0.out]at hs0
 have HS0:=hid hs0
 clear hs0
 obtain⟨t0,Ht0⟩:=name_itV (sameB (a.get 0) (b.get 0))
 rw[Ht0.out]at HS0
 obtain⟨u1,Hu1⟩:=name6 (a.get 1) (sa 1)
 obtain⟨v1,Hv1⟩:=name6 (b.get 1) (sb 1)
 have IU1:=hid (infoV6.trans (congrArg some Hu1.size.symm))
 have IV1:=hid (infoV6.trans (congrArg some Hv1.size.symm))
 have LU1:=hid (λ(W:World) (hb:Below w2.heap.size w2 W) i (hi:i<u1.size)=>(show W.cell? ((⟨z,6,none⟩:Addr).add i)=u1[i]? from by
  rw[Addr.add_mid,cell_of_row W z (6+i) ca _ _ ((hb.block z (blk_lt HXA.out)).trans HXA.out),←Hu1.out,←Hca.out]
  exact cellsT_part a sa 1 (by omega) i (by rwa [Hu1.size]at hi)))
 have LV1:=hid (λ(W:World) (hb:Below w2.heap.size w2 W) i (hi:i<v1.size)=>(show W.cell? ((⟨z+1,6,none⟩:Addr).add i)=v1[i]? from by
  rw[Addr.add_mid,cell_of_row W (z+1) (6+i) cb _ _ ((hb.block (z+1) (blk_lt HXB.out)).trans HXB.out),←Hv1.out,←Hcb.out]
  exact cellsT_part b sb 1 (by omega) i (by rwa [Hv1.size]at hi)))
 have hs1:=λ(W:World) (hb:Below w.heap.size w W)=>sameW_any (a.get 1) (b.get 1) (hsz 1 (by omega)) F G _ _ W (λg h=>Nat.lt_of_lt_of_le (hF g h) hb.size) (λg h=>Nat.lt_of_lt_of_le (hG g h) hb.size) ((h1 1 (by omega)).under hb hF) ((h2 1 (by omega)).under hb hG)
 rw[Hu1.out,Hv1.out]at hs1
 have HS1:=hid hs1
 clear hs1
 obtain⟨t1,Ht1⟩:=name_itV (sameB (a.get 1) (b.get 1))
 rw[Ht1.out]at HS1
 obtain⟨u2,Hu2⟩:=name6 (a.get 2) (sa 2)
 obtain⟨v2,Hv2⟩:=name6 (b.get 2) (sb 2)
 have IU2:=hid (infoV6.trans (congrArg some Hu2.size.symm))
 have IV2:=hid (infoV6.trans (congrArg some Hv2.size.symm))
 have LU2:=hid (λ(W:World) (hb:Below w2.heap.size w2 W) i (hi:i<u2.size)=>(show W.cell? ((⟨z,12,none⟩:Addr).add i)=u2[i]? from by
  rw[Addr.add_mid,cell_of_row W z (12+i) ca _ _ ((hb.block z (blk_lt HXA.out)).trans HXA.out),←Hu2.out,←Hca.out]
  exact cellsT_part a sa 2 (by omega) i (by rwa [Hu2.size]at hi)))
 have LV2:=hid (λ(W:World) (hb:Below w2.heap.size w2 W) i (hi:i<v2.size)=>(show W.cell? ((⟨z+1,12,none⟩:Addr).add i)=v2[i]? from by
  rw[Addr.add_mid,cell_of_row W (z+1) (12+i) cb _ _ ((hb.block (z+1) (blk_lt HXB.out)).trans HXB.out),←Hv2.out,←Hcb.out]
  exact cellsT_part b sb 2 (by omega) i (by rwa [Hv2.size]at hi)))
 have hs2:=λ(W:World) (hb:Below w.heap.size w W)=>sameW_any (a.get 2) (b.get 2) (hsz 2 (by omega)) F G _ _ W (λg h=>Nat.lt_of_lt_of_le (hF g h) hb.size) (λg h=>Nat.lt_of_lt_of_le (hG g h) hb.size) ((h1 2 (by omega)).under hb hF) ((h2 2 (by omega)).under hb hG)
 rw[Hu2.out,Hv2.out]at hs2
 have HS2:=hid hs2
 clear hs2
 obtain⟨t2,Ht2⟩:=name_itV (sameB (a.get 2) (b.get 2))
 rw[Ht2.out]at HS2
 unfold sameT
 rw[Ht0.out,Ht1.out,Ht2.out]
 clear h1 h2 hsz hF hG
 go_enter Tryz.func23,Tryz.ntmps23
 go_upto_region 1 with fail
 rw[HW2.out,Hz.out]
 clear HW2
 go_wp2_with (first
  | ((with_reducible refine at_dst (some 6) ?_);refine ld_armG (by rfl) 39 _ rfl rfl u0 _ (LU0.out w2 (Below.refl _ _)) Tryz.underlying39 rfl IU0.out ?_)
  | ((with_reducible refine at_dst (some 8) ?_);refine ld_armG (by rfl) 39 _ rfl rfl v0 _ (LV0.out w2 (Below.refl _ _)) Tryz.underlying39 rfl IV0.out ?_))
 refine (HS0.out _ (HPOST.out _ (Below.refl _ _))).mono ?_
 unfold ToldB
 rintro e x0 ⟨rfl,hb⟩
 have HX0:=hid (show Below w2.heap.size w2 x0 from hb)
 clear hb
 cases t0 with
 | false=>
  go_wp2_with fail
  go_ret
  exact⟨rfl,HPOST.out _ HX0.out⟩
 | true=>
  go_wp2_with (first
   | ((with_reducible refine at_dst (some 12) ?_);refine ld_armG (by rfl) 39 _ rfl rfl u1 _ (LU1.out x0 HX0.out) Tryz.underlying39 rfl IU1.out ?_)
   | ((with_reducible refine at_dst (some 14) ?_);refine ld_armG (by rfl) 39 _ rfl rfl v1 _ (LV1.out x0 HX0.out) Tryz.underlying39 rfl IV1.out ?_))
  refine (HS1.out _ (HPOST.out _ HX0.out)).mono ?_
  unfold ToldB
  rintro e x1 ⟨rfl,hb⟩
  have HX1:=hid (show Below w2.heap.size w2 x1 from HX0.out.trans (hb.mono HX0.out.size))
  clear hb
  cases t1 with
  | false=>
   go_wp2_with fail
   go_ret
   exact⟨rfl,HPOST.out _ HX1.out⟩
  | true=>
   go_wp2_with (first
    | ((with_reducible refine at_dst (some 19) ?_);refine ld_armG (by rfl) 39 _ rfl rfl u2 _ (LU2.out x1 HX1.out) Tryz.underlying39 rfl IU2.out ?_)
    | ((with_reducible refine at_dst (some 21) ?_);refine ld_armG (by rfl) 39 _ rfl rfl v2 _ (LV2.out x1 HX1.out) Tryz.underlying39 rfl IV2.out ?_))
   refine (HS2.out _ (HPOST.out _ HX1.out)).mono ?_
   unfold ToldB
   rintro e x2 ⟨rfl,hb⟩
   have HX2:=hid (show Below w2.heap.size w2 x2 from HX1.out.trans (hb.mono HX1.out.size))
   clear hb
   cases t2 with
   | false=>
    go_wp2_with fail
    go_ret
    exact⟨rfl,HPOST.out _ HX2.out⟩
   | true=>
    go_wp2_with fail
    go_ret
    exact⟨rfl,HPOST.out _ HX2.out⟩
def boolsC (f:Nat→Bool) (n:Nat):List Value:=(List.range n).map λk=>.bool (f k)
theorem boolsC_at (f:Nat→Bool) {n k:Nat} (h:k<n):(boolsC f n)[k]?=some (.bool (f k)):=by
 unfold boolsC
 rw[List.getElem?_map,List.getElem?_range h]
 rfl
theorem boolsC_set (f:Nat→Bool) {n k:Nat} (b:Bool):(boolsC f n).set k (.bool b)=boolsC (λi=>if i=k then b else f i) n:=by
 refine List.ext_getElem? λi=>?_
 by_cases hi:i<n
 ·rw[boolsC_at _ hi,List.getElem?_set]
  by_cases e:k=i
  ·subst e
   rw[if_pos rfl,if_pos (by unfold boolsC;simpa using hi),if_pos rfl]
  ·rw[if_neg e,boolsC_at _ hi,if_neg (λh=>e h.symm)]
 ·rw[List.getElem?_eq_none (by unfold boolsC;simp;omega),List.getElem?_eq_none (by unfold boolsC;simp;omega)]
theorem boolsC_congr {f g:Nat→Bool} {n:Nat} (h:∀i,i<n→f i=g i):boolsC f n=boolsC g n:=by
 refine List.ext_getElem? λi=>?_
 by_cases hi:i<n
 ·rw[boolsC_at _ hi,boolsC_at _ hi,h i hi]
 ·rw[List.getElem?_eq_none (by unfold boolsC;simp;omega),List.getElem?_eq_none (by unfold boolsC;simp;omega)]
structure OnM (w:World) (g n:Nat) (f:Nat→Bool) (wx:World):Prop where
 hb:Below w.heap.size w wx
 g0:w.heap.size≤g
 row:wx.ownsRow 0 4 1 (.slice (some ⟨g,0,none⟩) n n) n (boolsC f n)
theorem OnM.on {w wx w':World} {g n:Nat} {f:Nat→Bool} (h:OnM w g n f wx) (hb:Below wx.heap.size wx w'):OnM w g n f w':=
 ⟨h.hb.trans (hb.mono h.hb.size),h.g0,(Turn.of_below hb).owns h.row (λb hb2 e=>by have e:wx.heap.size≤b:=e;obtain⟨cur,hc⟩:=own_type h.row hb2;have:=blk_lt hc;omega)⟩
theorem OnM.drew {w wx:World} {g n:Nat} {f:Nat→Bool} (h:OnM w g n f wx):OnM w g n f wx.drew:=h.on (Below.refl _ _).drew
theorem OnM.at_ {w wx:World} {g n k:Nat} {f:Nat→Bool} (h:OnM w g n f wx) (hk:k<n):wx.cell? ⟨g,k,none⟩=some (.bool (f k)):=by rw[h.row.cellAt k (by omega)];exact boolsC_at f hk
theorem OnM.set {w wx:World} {g n k:Nat} {f f':Nat→Bool} (h:OnM w g n f wx) (b:Bool) (hf:∀i,i<n→f' i=if i=k then b else f i):OnM w g n f' (wx.setCell ⟨g,k,none⟩ (.bool b)):=by
 obtain⟨h1,h2⟩:=h.row.stored k (.bool b)
 rw[boolsC_set]at h1
 refine⟨below_turn h.hb (Turn.of_grown h2) (λq hq=>?_),h.g0,by rw[boolsC_congr hf];exact h1⟩
 injection hq with hq
 rw[hq]
 exact h.g0
noncomputable def gF (T:List Trip) (P:Trip) (i:Nat):Bool:=fitsT P (T.getD i tripB)
theorem gF_at {T:List Trip} {P:Trip} {i:Nat} {t:Trip} (h:T[i]?=some t):gF T P i=fitsT P t:=by
 unfold gF
 rw[List.getD_eq_getElem?_getD,h]
 rfl
theorem kof_filter {T:List Trip} {m:List Nat} (h:∀k,k∈m→k<T.length):Kof T m=m.filterMap λn=>T[n]?:=by
 induction m with
 | nil=>rfl
 | cons a r ih=>
  have ha:=h a (List.mem_cons_self ..)
  show T.getD a tripB::Kof T r=_
  rw[ih λk hk=>h k (List.mem_cons_of_mem _ hk),List.getD_eq_getElem?_getD,List.getElem?_eq_getElem ha,List.filterMap_cons_some (List.getElem?_eq_getElem ha)]
  rfl
theorem match_of {T:List Trip} {P:Trip} {l m:List Nat} (h:NearOf T P l) (hp:m.Perm (l.filter (gF T P))) (hs:m.Pairwise λa b=>a≤b):Kof T m=T.filter (fitsT P)∧(∀k,k∈m→k<T.length):=by
 have h1:∀k,k∈m→k<T.length:=λk hk=>h.lt k (List.mem_filter.1 (hp.mem_iff.1 hk)).1
 have h2:=near_fits h (gF T P) (λn t ht=>gF_at ht) hp hs
 refine⟨?_,h1⟩
 rw[kof_filter h1,h2]
 exact filter_get (fitsT P) T (gF T P) λn t ht=>gF_at ht
theorem RowT.at18 {F:Nat→Prop} {w:World} {cs:Nat→Array Value} {T:List Trip} {S:Value} (h:RowT F w cs T S) {i:Nat} {t:Trip} (ht:T[i]?=some t) :
    ∃r c ss,S = .slice (some ⟨r,0,none⟩) T.length c∧(∀e,e<3→∃A cap,ss e = .slice A 0 cap)∧∀w',RowT F w' cs T S→w'.rangeAt r (i*18) (cellsT t ss).toList:=by
 have hi:=(List.getElem?_eq_some_iff.1 ht).1
 obtain⟨A,cap,rfl,hc1,hr1⟩:=h.form
 obtain⟨r1,rfl,_,hx1⟩:=hr1 (by omega)
 obtain⟨_,_,ss,hss,hcs⟩:=h.el i t ht
 refine⟨r1,cap,ss,rfl,hss,λw' h'=>?_⟩
 obtain⟨A',cap',e1,_,hr3⟩:=h'.form
 injection e1 with e1 _ _
 obtain⟨r3,e3,_,hx3⟩:=hr3 (by omega)
 rw[←e1]at e3
 injection e3 with e3
 injection e3 with e3
 subst e3
 exact range_at (λj hj=>by rw[hx3 i hi j hj,hcs]) (cellsT_size t ss)
structure AtM (w:World) (c8:Array Value) (m:List Nat) (S:Value) (wx:World):Prop where
 hb:Below w.heap.size w wx
 box:wx.heap[w.heap.size+1]?=some (.cells c8 99 (0,0))
 row:IxRow w.heap.size S m wx
theorem AtM.on {w wx w':World} {c8:Array Value} {m:List Nat} {S:Value} (h:AtM w c8 m S wx) (hb:Below wx.heap.size wx w'):AtM w c8 m S w':=
 ⟨h.hb.trans (hb.mono h.hb.size),(hb.block _ (blk_lt h.box)).trans h.box,h.row.turn (Turn.of_below hb) λb hb2 e=>by have:=(h.row.blk b hb2).2;have e:wx.heap.size≤b:=e;omega⟩
theorem AtM.more {w wr w':World} {c8:Array Value} {m:List Nat} {S:Value} {g cap k n:Nat} (h:AtM w c8 m S wr) (hn:m.length=n) (hg:wr.grownBy w' S.ownBlock) (hl:S.ownBlock=some g∨wr.heap.size≤g) (hgw:g<w'.heap.size)
    (ho:w'.ownsRow 0 3 1 (.slice (some ⟨g,0,none⟩) (n+1) cap) (n+1) (ixC (m++[k]))):AtM w c8 (m++[k]) (.slice (some ⟨g,0,none⟩) (n+1) cap) w':=by
 have ht:=Turn.of_grown hg
 refine⟨below_turn h.hb ht (λb hb=>by have:=(h.row.blk b hb.symm).1;omega),ht.heap h.box (λe=>own_ne h.row.row h.box (by decide) e.symm),⟨?_,λb hb=>?_⟩⟩
 ·rw[List.length_append,hn]
  exact ho
 ·have hb:some g=some b:=hb
  injection hb with hb
  subst hb
  refine⟨?_,hgw⟩
  rcases hl with h1 | h1
  ·exact (h.row.blk _ h1).1
  ·have:=blk_lt h.box
   omega
structure MatM (w:World) (m:List Nat) (S6:Value) (L:List Trip) (S:Value) (wx:World):Prop where
 all:AllM w L S wx
 row:IxRow w.heap.size S6 m wx
theorem MatM.on {w wx w':World} {m:List Nat} {S6 S:Value} {L:List Trip} (h:MatM w m S6 L S wx) (hb:Below wx.heap.size wx w'):MatM w m S6 L S w':=
 ⟨h.all.on hb,h.row.turn (Turn.of_below hb) λb hb2 e=>by have:=(h.row.blk b hb2).2;have e:wx.heap.size≤b:=e;omega⟩
theorem MatM.more {w wr w':World} {m:List Nat} {S6 S:Value} {L:List Trip} {g cap n:Nat} {t:Trip} (h:MatM w m S6 L S wr) (hg:wr.grownBy w' S.ownBlock) (hl:S.ownBlock=some g∨wr.heap.size≤g) (hgw:g<w'.heap.size)
    (ho:SOwn 41 18 TrS w' (λb=>(w.heap.size≤b∧b<wr.heap.size)∨b=g) (L++[t]) (.slice (some ⟨g,0,none⟩) n cap)):MatM w m S6 (L++[t]) (.slice (some ⟨g,0,none⟩) n cap) w':=by
 refine⟨h.all.more hg hl hgw ho,h.row.turn (Turn.of_grown hg) λb hb e=>?_⟩
 obtain⟨cs,hrow,_⟩:=h.all.own
 exact own_apart hrow h.row.row (by decide) b hb e.symm
theorem build_prt (t:Trip) (ss:Nat→Value) (W:World):(Instr.build 99 #[(0,.agg (cellsV (t.get 0) (ss 0))),(1,.agg (cellsV (t.get 1) (ss 1))),(2,.agg (cellsV (t.get 2) (ss 2)))]).run Tryz.prog W = .ok (.agg (cellsT t ss)) W:=by kernel_rfl
theorem trp_one {t:Trip} {ss:Nat→Value} (h:∀i,i<3→∃A n cap,ss i = .slice A n cap):(cellsT t ss).all (·.oneCell')=true:=by
 rw[←Array.toArray_toList (xs:=cellsT t ss)]
 exact all_oneCell_toArray (cellsT_one t ss λq hq=>by obtain⟨A,n,cp,e⟩:=h q hq;exact⟨A,n,cp,e⟩)
set_option maxRecDepth 100000 in
set_option maxHeartbeats 8000000 in
theorem match_any {F:Nat→Prop} {c:Nat} {T:List Trip} {w:World} (h:StoreAt F w c T) (hF:∀b,F b→b<w.heap.size) (P:Trip) (ps:Nat→Value) (hps:∀e,e<3→∃B cap,ps e = .slice B (P.get e).list.length cap) (fb:∀n,FitV (P.get n)) (hgb:GlobB w) (hgt:GlobT w) :
    Calls Tryz.prog 19 #[.pointer (some ⟨c,0,none⟩),.agg (cellsT P ps)] w (AllIs (T.filter (fitsT P)) w):=by
 have HNR:=hid (λ(W:World) (hb:Below w.heap.size w W)=>near_any (h.keep (w':=W) λb hb2=>hb.block b (hF b hb2)) (λb hb2=>Nat.lt_of_lt_of_le (hF b hb2) hb.size) P ps fb (glob_under hgb hb) (globT_under hgt hb))
 unfold NearIs at HNR
 have HFI:=hid (λ(t:Trip) (ts:Nat→Value) (W:World) (hs:ScalT t) (ht:∀e,e<3→∃A cap,ts e = .slice A 0 cap)=>fits_any t P ts ps W (λe _=>scal_list (hs.get e)) ht hps)
 unfold ToldB at HFI
 obtain⟨S,ss0,cs,h1,h2,_⟩:=h.cells
 have HR:=hid (λ(W:World) (hb:Below w.heap.size w W)=>h2.keep (w':=W) λp hp=>hb.cell (hF _ hp))
 have HC:=hid (λ(W:World) (hb:Below w.heap.size w W)=>(show W.cell? ⟨c,0,none⟩=some S from (hb.cell (p:=⟨c,0,none⟩) (hF c h.fc)).trans (cell_of_heap h1 0)))
 have HSC:=hid h.scal
 have HFT:=hid h.fit
 have HTL:=hid h.len
 have HFF:=hid hF
 have hone8:=trp_one (t:=P) (ss:=ps) (λi hi=>by obtain⟨B,cp,e⟩:=hps i hi;exact⟨B,_,cp,e⟩)
 have HBD:=hid (build_prt P ps)
 clear h h1 h2 hF hps fb hgb hgt
 obtain⟨c8,Hc8⟩:=name18 P ps
 rw[Hc8.out]at hone8 HBD HNR
 have HFI:=hid (show ∀(t:Trip) (ts:Nat→Value) (W:World),ScalT t→(∀e,e<3→∃A cap,ts e = .slice A 0 cap)→Calls Tryz.prog 61 #[.agg (cellsT t ts),.agg c8] W (λe w'=>e = .returned (.bool (fitsT P t))∧Below W.heap.size W w') from by have:=HFI.out;rw[Hc8.out]at this;exact this)
 rw[Hc8.out]
 have HONE8:=hid hone8
 have Z8:=hid Hc8.size
 have Q8:=hid (show (Tryz.prog.info? 99).map (·.size)=some c8.size from by rw[Z8.out];kernel_rfl)
 clear hone8
 obtain⟨v0,Hv0⟩:=name6 (P.get 0) (ps 0)
 obtain⟨v1,Hv1⟩:=name6 (P.get 1) (ps 1)
 obtain⟨v2,Hv2⟩:=name6 (P.get 2) (ps 2)
 rw[Hv0.out,Hv1.out,Hv2.out]at HBD
 have IV0:=hid (infoV6.trans (congrArg some Hv0.size.symm))
 have IV1:=hid (infoV6.trans (congrArg some Hv1.size.symm))
 have IV2:=hid (infoV6.trans (congrArg some Hv2.size.symm))
 obtain⟨z,Hz⟩:=name_itV w.heap.size
 obtain⟨w1,HW1⟩:=name_itV (w.alloc (.cells c8 45))
 have HB1:=hid (show Below w.heap.size w w1 from by rw[←HW1.out];exact (Below.refl _ _).alloc (Nat.le_refl _) _)
 have HP1:=hid (show w1.heap[z]?=some (.cells c8 45 (0,0)) from by rw[←HW1.out,←Hz.out];exact heap_alloc_new w _)
 have HS1:=hid (show w1.heap.size=z+1 from by rw[←HW1.out,←Hz.out];simp)
 have LV0:=hid (λi (hi:i<v0.size)=>(show w1.cell? ((⟨z,0,none⟩:Addr).add i)=v0[i]? from by
  rw[Addr.add_mid,cell_of_row w1 z (0+i) c8 _ _ HP1.out,←Hv0.out,←Hc8.out]
  exact cellsT_part P ps 0 (by omega) i (by rwa [Hv0.size]at hi)))
 have LV1:=hid (λi (hi:i<v1.size)=>(show w1.cell? ((⟨z,6,none⟩:Addr).add i)=v1[i]? from by
  rw[Addr.add_mid,cell_of_row w1 z (6+i) c8 _ _ HP1.out,←Hv1.out,←Hc8.out]
  exact cellsT_part P ps 1 (by omega) i (by rwa [Hv1.size]at hi)))
 have LV2:=hid (λi (hi:i<v2.size)=>(show w1.cell? ((⟨z,12,none⟩:Addr).add i)=v2[i]? from by
  rw[Addr.add_mid,cell_of_row w1 z (12+i) c8 _ _ HP1.out,←Hv2.out,←Hc8.out]
  exact cellsT_part P ps 2 (by omega) i (by rwa [Hv2.size]at hi)))
 go_enter Tryz.func19,Tryz.ntmps19
 go_upto_region 1 with fail
 rw[HW1.out,Hz.out]
 clear HW1
 have HBX:=hid (show (w1.alloc (.cells #[.int .i64 0,.bool false,.int .i64 0,.string ⟨#[]⟩,.string ⟨#[]⟩,.slice none 0 0,.int .i64 0,.bool false,.int .i64 0,.string ⟨#[]⟩,.string ⟨#[]⟩,.slice none 0 0,.int .i64 0,.bool false,.int .i64 0,.string ⟨#[]⟩,.string ⟨#[]⟩,.slice none 0 0] 99)).heap[z+1]?=some (.cells #[.int .i64 0,.bool false,.int .i64 0,.string ⟨#[]⟩,.string ⟨#[]⟩,.slice none 0 0,.int .i64 0,.bool false,.int .i64 0,.string ⟨#[]⟩,.string ⟨#[]⟩,.slice none 0 0,.int .i64 0,.bool false,.int .i64 0,.string ⟨#[]⟩,.string ⟨#[]⟩,.slice none 0 0] 99 (0,0)) from by rw[←HS1.out];exact heap_alloc_new w1 _)
 go_upto_region 3 with (first
  | ((with_reducible refine at_dst (some 14) ?_);refine ld_armG (by rfl) 39 _ rfl rfl v0 _ LV0.out Tryz.underlying39 rfl IV0.out ?_)
  | ((with_reducible refine at_dst (some 16) ?_);refine ld_armG (by rfl) 39 _ rfl rfl v1 _ LV1.out Tryz.underlying39 rfl IV1.out ?_)
  | ((with_reducible refine at_dst (some 18) ?_);refine ld_armG (by rfl) 39 _ rfl rfl v2 _ LV2.out Tryz.underlying39 rfl IV2.out ?_)
  | ((with_reducible refine at_dst (some 19) ?_);refine build_arm rfl 99 _ rfl #[(0,.agg v0),(1,.agg v1),(2,.agg v2)] (by kernel_rfl) (.agg c8) (HBD.out _) ?_)
  | ((with_reducible refine at_st 5 ?_);refine st_row rfl 99 _ _ rfl (z+1) (#[.int .i64 0,.bool false,.int .i64 0,.string ⟨#[]⟩,.string ⟨#[]⟩,.slice none 0 0,.int .i64 0,.bool false,.int .i64 0,.string ⟨#[]⟩,.string ⟨#[]⟩,.slice none 0 0,.int .i64 0,.bool false,.int .i64 0,.string ⟨#[]⟩,.string ⟨#[]⟩,.slice none 0 0]) c8 99 (by rw[←HS1.out];rfl) rfl HBX.out Z8.out Q8.out HONE8.out ?_;intro w2 hw2 ht2))
 rw[HS1.out]
 have HB2:=hid (HB1.out.trans ((box_below (w5:=w2) (by rw[HS1.out];exact ht2)).mono HB1.out.size))
 have HQ2:=hid hw2
 clear hw2 ht2 HBX HBD
 go_wp2_with ((with_reducible refine at_dst (some 21) ?_);refine ld_arm rfl 99 _ rfl (z+1) 0 rfl c8 _ (range_row HQ2.out) Tryz.underlying99 rfl Q8.out ?_)
 refine (HNR.out w2 HB2.out).mono ?_
 rintro e3 w3 ⟨l,sl,rfl,hnear,hrow,hb3⟩
 obtain⟨A,cap,rfl,hcap,_⟩:=id hrow
 have HNE:=hid hnear
 have HB3:=hid (HB2.out.trans (hb3.mono HB2.out.size))
 have HRW:=hid (λ(W:World) (hb:Below w.heap.size w W)=>hrow.keep (w':=W) λp hp=>World.cell?_of_block ((hb.block _ (HFF.out _ hp)).trans (HB3.out.block _ (HFF.out _ hp)).symm))
 have HA3:=hid (show AtM w c8 [] (.slice none 0 0) w3 from ⟨HB3.out,by rw[Hz.out];exact (hb3.block (z+1) (blk_lt HQ2.out)).trans HQ2.out,IxRow.nil _ _⟩)
 clear hnear hrow hb3 hcap
 obtain⟨n,Hn⟩:=name_itV l.length
 rw[Hn.out]at HRW ⊢
 go_wp2_with fail
 go_loopw [6,24] (λs6 s24 wx=>∃(k:Nat) (S6:Value),k≤n∧s24 = .int .i64 (k:Nat)∧S6=s6∧Hid (AtM w c8 ((l.take k).filter (gF T P)) S6 wx)) (λ_ s _=>n-(intOf s).toNat)
 case atStart=>exact⟨0,_,by omega,rfl,rfl,HA3⟩
 case round=>
  obtain⟨k,S6,hk,rfl,rfl,hM⟩:=hrel
  have HLE:=hid (show l.length≤65536 from by
   have h1:=HTL.out
   have h2:=HNE.out.nodup.length_le_of_subset (l₂:=List.range T.length) (λx hx=>List.mem_range.2 (HNE.out.lt x hx))
   rw[List.length_range]at h2
   omega)
  by_cases hlt:k<n
  ·have a2:(k:Int)<n:=by omega
   have HK:=hid hlt
   obtain⟨i,hi⟩:∃i,l[k]?=some i:=⟨_,List.getElem?_eq_getElem (by rw[Hn.out];exact hlt)⟩
   have HI:=hid hi
   have hiT:=HNE.out.lt i (List.mem_of_getElem? hi)
   obtain⟨t,ht⟩:∃t,T[i]?=some t:=⟨_,List.getElem?_eq_getElem hiT⟩
   obtain⟨r1,cS,ss,rfl,hss,h18⟩:=(HR.out wr hM.out.hb).at18 ht
   obtain⟨A',cap',e1,_,hr2⟩:=HRW.out wr hM.out.hb
   injection e1 with e1 e2 e3
   obtain⟨r2,o2,e4,_,hx⟩:=hr2 (by rw[Hn.out];omega)
   rw[←e1]at e4
   subst e4
   have q26:=hx k i hi
   have HGF:=hid (gF_at (P:=P) ht)
   have HF1:=hid (λW=>HFI.out t ss W (HSC.out t (List.mem_of_getElem? ht)) hss)
   obtain⟨b,Hb⟩:=name_itV (fitsT P t)
   rw[Hb.out]at HF1 HGF
   obtain⟨c1,Hc1⟩:=name18 t ss
   rw[Hc1.out]at HF1 h18
   have Q1:=hid (show (Tryz.prog.info? 99).map (·.size)=some c1.size from by rw[Hc1.size];kernel_rfl)
   have H18:=hid (λ(W:World) (hb:Below w.heap.size w W)=>h18 W (HR.out W hb))
   obtain⟨N,HN⟩:=name_itV T.length
   rw[HN.out]at HC hiT
   have HIT:=hid hiT
   clear h18 ht hi hiT hss hr2 hx e1 e2 e3
   have w8k:IntKind.i64.wrap ((k:Int)+1)=(k:Int)+1:=IntWalk.i64_in _ (by have:=HLE.out;have:=Hn.out;omega)
   have HBOX:=hid (show wr.heap[z+1]?=some (.cells c8 99 (0,0)) from by have:=hM.out.box;rwa [Hz.out]at this)
   go_upto_region 6 with ((with_reducible refine at_dst (some 26) ?_);refine val_arm rfl (.pointer (some ⟨r2,o2+k,none⟩)) (val_of (idx_num r2 o2 n cap k HK.out _)) ?_)
   clear q26 a2
   refine wp_region_held_drew (S:=λW'=>Below w.heap.size w W'∧W'.heap[z+1]?=some (.cells c8 99 (0,0))) (by kernel_rfl) ⟨hM.out.hb.drew,HBOX.out⟩ (λhH=>?_)
   refine Boxed.out ?_
   refine tkV 0 28 (.pointer (some ⟨c,0,none⟩)) hH (λhH=>?_)
   try simp only[Act.put,aT,aZ,aS]
   refine tkV 1 29 (.pointer (some ⟨c,0,none⟩)) hH (λhH=>?_)
   try simp only[Act.put,aT,aZ,aS]
   refine tkV 2 30 (.pointer (some ⟨c,0,none⟩)) hH (λhH=>?_)
   try simp only[Act.put,aT,aZ,aS]
   refine tkW 3 31 (.slice (some ⟨r1,0,none⟩) N cS) hH (λw hSw=>?_) (λhH=>?_)
   ·have p9:=HC.out w hSw.1
    unfold runsTo
    go_simp
   try simp only[Act.put,aT,aZ,aS]
   refine tkV 4 32 (.int .i64 (i:Nat)) hH (λhH=>?_)
   try simp only[Act.put,aT,aZ,aS]
   refine tkW 5 33 (.pointer (some ⟨r1,i*18,none⟩)) hH (λw hSw=>?_) (λhH=>?_)
   ·exact val_of (idx_row r1 N cS i HIT.out w)
   try simp only[Act.put,aT,aZ,aS]
   refine tkW 6 34 (.agg c1) hH (λw hSw=>?_) (λhH=>?_)
   ·have q9:=run_loadAt_mid (P:=Tryz.prog) w r1 (i*18) 99 c1.toList _ (H18.out w hSw.1) Tryz.underlying99 rfl (by rw[Array.length_toList];exact Q1.out)
    rw[Array.toArray_toList]at q9
    exact val_of q9
   try simp only[Act.put,aT,aZ,aS]
   refine tkW 7 35 (.agg c8) hH (λw hSw=>?_) (λhH=>?_)
   ·exact val_of (ld_run hSw.2 99 _ Tryz.underlying99 rfl Q8.out)
   try simp only[Act.put,aT,aZ,aS]
   refine tkC 8 (λK hK=>?_)
   change Oper.wp _ ⟨some 36,_,_,_,_,_⟩ _ _ _ _
   go_simp
   refine (HF1.out _).mono ?_
   rintro e w4 ⟨rfl,hb4⟩
   have HB4:=hid (show Below wr.heap.size wr w4 from below_of_dr hb4)
   clear hb4 HF1
   dsimp only
   refine hK.out _ _ ⟨hM.out.hb.trans (HB4.out.mono hM.out.hb.size),(HB4.out.block (z+1) (blk_lt HBOX.out)).trans HBOX.out⟩ (λhH=>?_)
   clear hK K
   try simp only[Act.put,aT,aZ,aS]
   refine⟨wpAnyH_done (by kernel_rfl) ?_ _⟩
   clear hH
   cases b with
   | false=>
    have HN4:=hid (show AtM w c8 ((l.take (k+1)).filter (gF T P)) S6 w4 from by
     rw[take_oneMore HI.out,List.filter_append,List.filter_cons_of_neg (by rw[HGF.out];exact Bool.false_ne_true),List.filter_nil,List.append_nil]
     exact hM.out.on HB4.out)
    go_wp2_with fail
    go_roundw
    case rel=>exact⟨k+1,_,by omega,by first | rfl | go_num,rfl,HN4⟩
    case measure=>simp[intOf];omega
   | true=>
    have HM4:=hid (hM.out.on HB4.out)
    have HLF:=hid (show ((l.take k).filter (gF T P)).length≤65536 from by
     have h1:=List.length_filter_le (gF T P) (l.take k)
     have h2:=List.length_take_le k l
     have h3:=HLE.out
     have h4:(l.take k).length≤l.length:=List.length_take_le' k l
     omega)
    obtain⟨mm,Hmm⟩:=name_itV ((l.take k).filter (gF T P)).length
    rw[Hmm.out]at HLF
    have HR4:=hid (show w4.ownsRow 0 3 1 S6 mm (ixC ((l.take k).filter (gF T P))) from by have:=HM4.out.row.row;rwa [Hmm.out]at this)
    go_wp2_with ((with_reducible refine at_dst (some 40) ?_);refine wpList_plain rfl λK hK=>?_;refine wp_app_I (.tmp 37) (.tmp 39) rfl (k:=i) rfl Hmm.out HR4.out rfl (by have:=HLF.out;omega) (λg7 c7 w7 ho7 hg7 hl7 hw7=>hK _ _ ?_);clear hK K)
    have HM7:=hid (show AtM w c8 ((l.take (k+1)).filter (gF T P)) (.slice (some ⟨g7,0,none⟩) (mm+1) c7) w7 from by
     rw[take_oneMore HI.out,List.filter_append,List.filter_cons_of_pos (by rw[HGF.out]),List.filter_nil]
     exact HM4.out.more Hmm.out hg7 hl7 hw7 ho7)
    clear ho7 hg7 hl7 hw7
    go_wp2_with fail
    go_roundw
    case rel=>exact⟨k+1,_,by omega,by first | rfl | go_num,rfl,HM7⟩
    case measure=>simp[intOf];omega
  ·have hkn:k=n:=by omega
   subst hkn
   have HA:=hid (show AtM w c8 (l.filter (gF T P)) S6 wr from by have:=hM.out;rwa [List.take_of_length_le (by rw[Hn.out];omega)]at this)
   have HLF:=hid (show (l.filter (gF T P)).length≤100000000 from by
    have h1:=List.length_filter_le (gF T P) l
    have h3:=HLE.out
    omega)
   have a2:¬(k:Int)<k:=by omega
   clear hM hk hlt
   go_wp2_with fail
   refine (sortN_any HA.out.row.row HLF.out).mono ?_
   rintro e6 w6 ⟨rfl,m,hp,hs,hrow6,ht6⟩
   obtain⟨hkof,hmT⟩:=match_of HNE.out hp hs
   have HB6:=hid (below_turn HA.out.hb ht6 (λb hb=>by have:=(HA.out.row.blk b hb).1;omega))
   have HIX:=hid (show IxRow w.heap.size S6 m w6 from ⟨hrow6,λb hb=>⟨(HA.out.row.blk b hb).1,Nat.lt_of_lt_of_le (HA.out.row.blk b hb).2 ht6.size⟩⟩)
   have HMT:=hid hmT
   have HKF:=hid hkof
   have HML:=hid (show m.length≤65536 from by
    have h1:=List.length_filter_le (fitsT P) T
    rw[←hkof,kof_len]at h1
    exact Nat.le_trans h1 HTL.out)
   clear hp hs hrow6 ht6 hkof hmT a2
   obtain⟨A6,c6,rfl,_,_⟩:=id (HIX.out.rd (F:=λ_=>True) (λ_ _ _=>trivial))
   have HST:=hid (show MatM w m (.slice A6 m.length c6) [] (.slice none 0 0) w6 from ⟨⟨HB6.out,SOwn.nil ..⟩,HIX.out⟩)
   obtain⟨AS,cpS,rfl⟩:=rowT_len (HR.out w (Below.refl _ _))
   obtain⟨N,HN⟩:=name_itV T.length
   obtain⟨mn,Hmn⟩:=name_itV m.length
   rw[HN.out]at HR HC
   rw[Hmn.out]at HST HML ⊢
   go_wp2_with fail
   go_loopw [9,46] (λs9 s46 wx=>∃(k:Nat) (S9:Value),k≤mn∧s46 = .int .i64 (k:Nat)∧S9=s9∧Hid (MatM w m (.slice A6 mn c6) ((Kof T m).take k) S9 wx)) (λ_ s _=>mn-(intOf s).toNat)
   case atStart=>exact⟨0,_,by omega,rfl,rfl,HST⟩
   case round=>
    obtain⟨k,S9,hk,rfl,rfl,hM⟩:=hrel
    by_cases hlt:k<mn
    ·have HK:=hid hlt
     obtain⟨i,hi⟩:∃i,m[k]?=some i:=⟨_,List.getElem?_eq_getElem (by rw[Hmn.out];exact hlt)⟩
     have hiT:=HMT.out i (List.mem_of_getElem? hi)
     obtain⟨t,ht⟩:∃t,T[i]?=some t:=⟨_,List.getElem?_eq_getElem hiT⟩
     have HT:=hid (kof_get hi ht)
     obtain⟨A',cap',e1,_,hr2⟩:=hM.out.row.rd (F:=λ_=>True) (λ_ _ _=>trivial)
     injection e1 with e1 e2 e3
     obtain⟨r2,o2,e4,_,hx⟩:=hr2 (by rw[Hmn.out];omega)
     rw[←e1]at e4
     subst e4
     have q26:=hx k i hi
     obtain⟨ad,ss,rfl,_,hss,hq⟩:=rowT_cells (HR.out wr hM.out.all.hb) ht
     have q53:=HC.out wr hM.out.all.hb
     have HTR:=hid (λ(w:World) (F:Nat→Prop)=>(show TrS w F t (cellsT t ss) from ⟨HSC.out t (List.mem_of_getElem? ht),HFT.out t (List.mem_of_getElem? ht),ss,hss,rfl⟩))
     have HBD:=hid (build_trp t ss)
     have hone:=tr_one (t:=t) hss
     rw[HN.out]at hiT
     obtain⟨A0,q0,e0⟩:=hss 0 (by omega)
     obtain⟨A1,q1,e1'⟩:=hss 1 (by omega)
     obtain⟨A2,q2,e2'⟩:=hss 2 (by omega)
     clear ht hss hr2 hx e1 e2 e3 hi
     obtain⟨c1,Hc1⟩:=name18 t ss
     rw[Hc1.out]at hq hone HTR HBD
     obtain⟨u0,Hu0⟩:=name6 (t.get 0) (ss 0)
     obtain⟨u1,Hu1⟩:=name6 (t.get 1) (ss 1)
     obtain⟨u2,Hu2⟩:=name6 (t.get 2) (ss 2)
     rw[Hu0.out,Hu1.out,Hu2.out]at HBD
     have HQ:=hid hq
     have HONE:=hid hone
     have Z1:=hid Hc1.size
     have QP:=hid (show (Tryz.prog.info? 99).map (·.size)=some c1.size from by rw[Z1.out];kernel_rfl)
     have IU0:=hid (infoV6.trans (congrArg some Hu0.size.symm))
     have IU1:=hid (infoV6.trans (congrArg some Hu1.size.symm))
     have IU2:=hid (infoV6.trans (congrArg some Hu2.size.symm))
     clear hq hone e0 e1' e2'
     have a2:(k:Int)<mn:=by omega
     have a3:(0:Int)≤i:=by omega
     have a4:(i:Int)<N:=by omega
     have w1:IntKind.i64.wrap ((k:Int)+1)=(k:Int)+1:=IntWalk.i64_in _ (by have:=HML.out;omega)
     obtain⟨zy,Hzy⟩:=name_itV wr.heap.size
     have HBX:=hid (show (wr.alloc (.cells #[.int .i64 0,.bool false,.int .i64 0,.string ⟨#[]⟩,.string ⟨#[]⟩,.slice none 0 0,.int .i64 0,.bool false,.int .i64 0,.string ⟨#[]⟩,.string ⟨#[]⟩,.slice none 0 0,.int .i64 0,.bool false,.int .i64 0,.string ⟨#[]⟩,.string ⟨#[]⟩,.slice none 0 0] 99)).heap[zy]?=some (.cells #[.int .i64 0,.bool false,.int .i64 0,.string ⟨#[]⟩,.string ⟨#[]⟩,.slice none 0 0,.int .i64 0,.bool false,.int .i64 0,.string ⟨#[]⟩,.string ⟨#[]⟩,.slice none 0 0,.int .i64 0,.bool false,.int .i64 0,.string ⟨#[]⟩,.string ⟨#[]⟩,.slice none 0 0] 99 (0,0)) from by rw[←Hzy.out];exact heap_alloc_new wr _)
     go_upto_region 15 with (first
      | ((with_reducible refine at_dst (some 48) ?_);refine val_arm rfl (.pointer (some ⟨r2,o2+k,none⟩)) (val_of (idx_num r2 o2 mn c6 k HK.out _)) ?_)
      | ((with_reducible refine at_dst (some 56) ?_);refine ld_armA rfl 99 _ rfl rfl c1 _ HQ.out Tryz.underlying99 rfl QP.out ?_)
      | ((with_reducible refine at_st 12 ?_);refine st_row rfl 99 _ _ rfl zy (#[.int .i64 0,.bool false,.int .i64 0,.string ⟨#[]⟩,.string ⟨#[]⟩,.slice none 0 0,.int .i64 0,.bool false,.int .i64 0,.string ⟨#[]⟩,.string ⟨#[]⟩,.slice none 0 0,.int .i64 0,.bool false,.int .i64 0,.string ⟨#[]⟩,.string ⟨#[]⟩,.slice none 0 0]) c1 99 (by rw[←Hzy.out];rfl) rfl HBX.out Z1.out QP.out HONE.out ?_;intro w5 hw5 ht5))
     rw[Hzy.out]
     have HB5:=hid (show Below wr.heap.size wr w5 from box_below (by rw[Hzy.out];exact ht5))
     have HW5:=hid hw5
     clear hw5 ht5 HQ HBX q26 q53
     have HM5:=hid (hM.out.on HB5.out)
     have LU0:=hid (λi (hi:i<u0.size)=>(show w5.cell? ((⟨zy,0,none⟩:Addr).add i)=u0[i]? from by
      rw[Addr.add_mid,cell_of_row w5 zy (0+i) c1 _ _ HW5.out,←Hu0.out,←Hc1.out]
      exact cellsT_part t ss 0 (by omega) i (by rwa [Hu0.size]at hi)))
     have LU1:=hid (λi (hi:i<u1.size)=>(show w5.cell? ((⟨zy,6,none⟩:Addr).add i)=u1[i]? from by
      rw[Addr.add_mid,cell_of_row w5 zy (6+i) c1 _ _ HW5.out,←Hu1.out,←Hc1.out]
      exact cellsT_part t ss 1 (by omega) i (by rwa [Hu1.size]at hi)))
     have LU2:=hid (λi (hi:i<u2.size)=>(show w5.cell? ((⟨zy,12,none⟩:Addr).add i)=u2[i]? from by
      rw[Addr.add_mid,cell_of_row w5 zy (12+i) c1 _ _ HW5.out,←Hu2.out,←Hc1.out]
      exact cellsT_part t ss 2 (by omega) i (by rwa [Hu2.size]at hi)))
     go_wp2_with (first
      | ((with_reducible refine at_dst (some 59) ?_);refine ld_armG (by rfl) 39 _ rfl rfl u0 _ LU0.out Tryz.underlying39 rfl IU0.out ?_)
      | ((with_reducible refine at_dst (some 61) ?_);refine ld_armG (by rfl) 39 _ rfl rfl u1 _ LU1.out Tryz.underlying39 rfl IU1.out ?_)
      | ((with_reducible refine at_dst (some 63) ?_);refine ld_armG (by rfl) 39 _ rfl rfl u2 _ LU2.out Tryz.underlying39 rfl IU2.out ?_)
      | ((with_reducible refine at_dst (some 64) ?_);refine build_arm rfl 41 _ rfl #[(0,.agg u0),(1,.agg u1),(2,.agg u2)] (by kernel_rfl) (.agg c1) (HBD.out _) ?_)
      | ((with_reducible refine at_dst (some 65) ?_);refine bs_arm rfl 22 1 _ rfl #[(0,.agg c1)] (by kernel_rfl) (.slice (some ⟨w5.heap.size,0,none⟩) 1 1) _ (bs1_run c1 Z1.out w5) ?_)
      | ((with_reducible refine at_dst (some 66) ?_);refine wpList_plain rfl λK hK=>?_;refine wp_app_L (.tmp 57) (.tmp 65) rfl rfl HM5.out.all.own (show ((Kof T m).take k).length=k from by rw[List.length_take,kof_len,Hmn.out];omega) rfl HTR.out (by have:=HML.out;omega) (λb hb=>hb.2) (λg7 c7 w7 ho7 hg7 hl7 hw7=>hK _ _ ?_);clear hK K))
     have HM7:=hid (HM5.out.more hg7 hl7 hw7 ho7)
     clear ho7 hg7 hl7 hw7
     go_wp2_with fail
     go_roundw
     case rel=>exact⟨k+1,_,by omega,by go_num,rfl,hid (by rw[take_oneMore HT.out];exact HM7.out)⟩
     case measure=>simp[intOf];omega
    ·have a2:¬(k:Int)<mn:=by omega
     have HE:=hid (show AllIs (T.filter (fitsT P)) w (.returned S9) wr from ⟨S9,rfl,by
      have:=hM.out.all.own
      rw[List.take_of_length_le (by rw[kof_len,Hmn.out];omega),HKF.out]at this
      exact this,hM.out.all.hb⟩)
     go_wp2_with fail
     go_ret
     exact HE.out
def CountIs (n:Nat) (w:World) (e:Ending) (w':World):Prop:=e = .returned (.int .i64 (n:Nat))∧Below w.heap.size w w'
set_option maxRecDepth 100000 in
set_option maxHeartbeats 4000000 in
theorem count_any {F:Nat→Prop} {c:Nat} {T:List Trip} {w:World} (h:StoreAt F w c T) (hF:∀b,F b→b<w.heap.size) (P:Trip) (ps:Nat→Value) (hps:∀e,e<3→∃B cap,ps e = .slice B (P.get e).list.length cap) (fb:∀n,FitV (P.get n)) (hgb:GlobB w) (hgt:GlobT w) :
    Calls Tryz.prog 21 #[.pointer (some ⟨c,0,none⟩),.agg (cellsT P ps)] w (CountIs (T.filter (fitsT P)).length w):=by
 have HMA:=hid (λ(W:World) (hb:Below w.heap.size w W)=>match_any (h.keep (w':=W) λb hb2=>hb.block b (hF b hb2)) (λb hb2=>Nat.lt_of_lt_of_le (hF b hb2) hb.size) P ps hps fb (glob_under hgb hb) (globT_under hgt hb))
 unfold AllIs at HMA
 unfold CountIs
 obtain⟨n,Hn⟩:=name_itV (T.filter (fitsT P)).length
 rw[Hn.out]
 obtain⟨c8,Hc8⟩:=name18 P ps
 rw[Hc8.out]at HMA ⊢
 have Q8:=hid (show (Tryz.prog.info? 45).map (·.size)=some c8.size from by rw[Hc8.size];kernel_rfl)
 obtain⟨z,Hz⟩:=name_itV w.heap.size
 obtain⟨w1,HW1⟩:=name_itV (w.alloc (.cells c8 45))
 have HB1:=hid (show Below w.heap.size w w1 from by rw[←HW1.out];exact (Below.refl _ _).alloc (Nat.le_refl _) _)
 have HP1:=hid (show w1.heap[z]?=some (.cells c8 45 (0,0)) from by rw[←HW1.out,←Hz.out];exact heap_alloc_new w _)
 clear h hF hps fb hgb hgt Hc8
 go_enter Tryz.func21,Tryz.ntmps21
 go_upto_region 1 with fail
 rw[HW1.out,Hz.out]
 clear HW1
 go_wp2_with ((with_reducible refine at_dst (some 6) ?_);refine ld_arm rfl 45 _ rfl z 0 rfl c8 _ (range_row HP1.out) Tryz.underlying45 rfl Q8.out ?_)
 refine (HMA.out w1 HB1.out).mono ?_
 rintro e2 w2 ⟨v,rfl,hown,hb2⟩
 obtain⟨A,cap,rfl⟩:=hown.form
 have HB2:=hid (HB1.out.trans (hb2.mono HB1.out.size))
 clear hown hb2 HMA
 rw[Hn.out]
 go_wp2_with fail
 go_ret
 exact⟨rfl,HB2.out⟩
end Go.Proofs.YtefhfadjajcmkaaGreatDoor
