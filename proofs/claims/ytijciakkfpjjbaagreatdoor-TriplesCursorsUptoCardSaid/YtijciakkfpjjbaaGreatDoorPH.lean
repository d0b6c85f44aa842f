/- Cutting lists; a list that grows by insertion, in memory. -/
import Derived.Test.YtijciakkfpjjbaaGreatDoorPG
import Derived.Test.YtijciakkfpjjbaaGreatDoorP8
import Derived.Test.YtijciakkfpjjbaaGreatDoorP0
import Derived.Test.YtijciakkfpjjbaaGreatDoorL0
import Derived.OneCell
import Derived.Laws.OwnMore
import Derived.Test.YtijciakkfpjjbaaGreatDoorP4
import Derived.Maps.AppendAt
namespace Go.Proofs.YtijciakkfpjjbaaGreatDoor
open Go Go.RowKit Go.Maps
open Go.Lib (hid cell_of_heap)
def iriV (t:ByteArray):Val:=.mk 8 false 0 t ⟨#[]⟩ []
def wk1:Trip:=⟨iriV ⟨#[97]⟩,iriV ⟨#[112]⟩,iriV ⟨#[98]⟩⟩
def wk2:Trip:=⟨iriV ⟨#[97]⟩,iriV ⟨#[112]⟩,iriV ⟨#[99]⟩⟩
def wk3:Trip:=⟨iriV ⟨#[98]⟩,iriV ⟨#[113]⟩,iriV ⟨#[99]⟩⟩
theorem wk_ok (t:Trip) (h:t∈[wk1,wk2,wk3]):OkT t:=by
 simp only[List.mem_cons,List.not_mem_nil,or_false]at h
 rcases h with rfl | rfl | rfl<;>exact⟨⟨by decide,by decide,by decide⟩,⟨by decide,by decide,by decide⟩,⟨by decide,by decide,by decide⟩⟩
theorem wk_may (t:Trip) (h:t∈[wk1,wk2,wk3]):mayT t=true:=by
 simp only[List.mem_cons,List.not_mem_nil,or_false]at h
 rcases h with rfl | rfl | rfl<;>decide
theorem wk_scal (t:Trip) (h:t∈[wk1,wk2,wk3]):ScalT t:=mayT_scal (wk_may t h) (wk_ok t h)
theorem wk_rise:Rise (along (wayN 0)) [wk1,wk2,wk3]:=by decide
theorem wk_load:loadR (along (wayN 0)) [wk1,wk2,wk3]=[wk1,wk2,wk3]:=by
 have h:=loadR_is (along_pre (wayN 0)) (l:=[wk1,wk2,wk3]) (λa ha b hb h=>along_eq (wayN_ok 0) (wk_scal a ha) (wk_scal b hb) h)
 exact rise_one (along_pre _) h.1 wk_rise h.2
theorem wk_keys0:keysA [wk1,wk2,wk3] (wayN 3) []=[iriV ⟨#[112]⟩,iriV ⟨#[113]⟩]:=by
 have h:=keysA_is (w:=wayN 3) wk_scal []
 refine rise_one ordV_pre h.1 (by decide) λx=>(h.2 x).trans ?_
 constructor
 ·rintro⟨t,ht,_,rfl⟩
  simp only[List.mem_cons,List.not_mem_nil,or_false]at ht ⊢
  rcases ht with rfl | rfl | rfl
  ·exact .inl rfl
  ·exact .inl rfl
  ·exact .inr rfl
 ·intro hx
  simp only[List.mem_cons,List.not_mem_nil,or_false]at hx
  rcases hx with rfl | rfl
  ·exact⟨wk1,by simp,Begins.nil _ _,rfl⟩
  ·exact⟨wk3,by simp,Begins.nil _ _,rfl⟩
theorem begins_one {w:Way} {v:Val} {t:Trip}:Begins w [v] t↔t.get (w.get 0)=v:=by
 have:=Begins.snoc (w:=w) (pre:=[]) (v:=v) (t:=t)
 exact⟨λh=>(this.1 h).2,λh=>this.2 ⟨Begins.nil _ _,h⟩⟩
theorem wk_keys1:keysA [wk1,wk2,wk3] (wayN 3) [iriV ⟨#[112]⟩]=[iriV ⟨#[98]⟩,iriV ⟨#[99]⟩]:=by
 have h:=keysA_is (w:=wayN 3) wk_scal [iriV ⟨#[112]⟩]
 refine rise_one ordV_pre h.1 (by decide) λx=>(h.2 x).trans ?_
 constructor
 ·rintro⟨t,ht,hb,rfl⟩
  simp only[List.mem_cons,List.not_mem_nil,or_false]at ht ⊢
  rcases ht with rfl | rfl | rfl
  ·exact .inl rfl
  ·exact .inr rfl
  ·exact absurd (begins_one.1 hb) (by intro h;injection h with _ _ _ h _ _;revert h;decide)
 ·intro hx
  simp only[List.mem_cons,List.not_mem_nil,or_false]at hx
  rcases hx with rfl | rfl
  ·exact⟨wk1,by simp,begins_one.2 rfl,rfl⟩
  ·exact⟨wk2,by simp,begins_one.2 rfl,rfl⟩
theorem wk_s1:openA [wk1,wk2,wk3] (wayN 3) ⟨[],false⟩=(⟨[iriV ⟨#[112]⟩],false⟩,true):=by
 unfold openA
 rw[if_neg (by decide),wk_keys0]
 rfl
theorem wk_s2:openA [wk1,wk2,wk3] (wayN 3) ⟨[iriV ⟨#[112]⟩],false⟩=(⟨[iriV ⟨#[112]⟩,iriV ⟨#[98]⟩],false⟩,true):=by
 unfold openA
 rw[if_neg (by decide),wk_keys1]
 rfl
theorem wk_s3:nextA [wk1,wk2,wk3] (wayN 3) ⟨[iriV ⟨#[112]⟩,iriV ⟨#[98]⟩],false⟩=(⟨[iriV ⟨#[112]⟩,iriV ⟨#[99]⟩],false⟩,true):=by
 show toA [wk1,wk2,wk3] (wayN 3) true (iriV ⟨#[98]⟩) ⟨[iriV ⟨#[112]⟩,iriV ⟨#[98]⟩],false⟩=_
 show (match (keysA [wk1,wk2,wk3] (wayN 3) [iriV ⟨#[112]⟩]).find? (toF true (iriV ⟨#[98]⟩) (iriV ⟨#[98]⟩)) with | some x=>((⟨[iriV ⟨#[112]⟩]++[x],false⟩:CurA),true) | none=>_)=_
 rw[wk_keys1,show [iriV ⟨#[98]⟩,iriV ⟨#[99]⟩].find? (toF true (iriV ⟨#[98]⟩) (iriV ⟨#[98]⟩))=some (iriV ⟨#[99]⟩) from by kernel_rfl]
 rfl
theorem wk_s4:nextA [wk1,wk2,wk3] (wayN 3) ⟨[iriV ⟨#[112]⟩,iriV ⟨#[99]⟩],false⟩=(⟨[iriV ⟨#[112]⟩,iriV ⟨#[99]⟩],true⟩,false):=by
 show (match (keysA [wk1,wk2,wk3] (wayN 3) [iriV ⟨#[112]⟩]).find? (toF true (iriV ⟨#[99]⟩) (iriV ⟨#[99]⟩)) with | some x=>((⟨[iriV ⟨#[112]⟩]++[x],false⟩:CurA),true) | none=>_)=_
 rw[wk_keys1,show [iriV ⟨#[98]⟩,iriV ⟨#[99]⟩].find? (toF true (iriV ⟨#[99]⟩) (iriV ⟨#[99]⟩))=none from by kernel_rfl]
theorem wk_s5:upA ⟨[iriV ⟨#[112]⟩,iriV ⟨#[99]⟩],true⟩=(⟨[iriV ⟨#[112]⟩],false⟩,true):=rfl
theorem wk_s6:nextA [wk1,wk2,wk3] (wayN 3) ⟨[iriV ⟨#[112]⟩],false⟩=(⟨[iriV ⟨#[113]⟩],false⟩,true):=by
 show (match (keysA [wk1,wk2,wk3] (wayN 3) []).find? (toF true (iriV ⟨#[112]⟩) (iriV ⟨#[112]⟩)) with | some x=>((⟨[]++[x],false⟩:CurA),true) | none=>_)=_
 rw[wk_keys0,show [iriV ⟨#[112]⟩,iriV ⟨#[113]⟩].find? (toF true (iriV ⟨#[112]⟩) (iriV ⟨#[112]⟩))=some (iriV ⟨#[113]⟩) from by kernel_rfl]
 rfl
theorem build_iri (t:ByteArray) (W:World):(Instr.build 34 #[(0,.int .i64 8),(3,.string t)]).run Tryz.prog W = .ok (.agg (cellsV (iriV t) (.slice none 0 0))) W:=by kernel_rfl
def IriIs (t:ByteArray) (w:World) (e:Ending) (w':World):Prop:=e = .returned (.agg (cellsV (iriV t) (.slice none 0 0)))∧Below w.heap.size w w'
set_option maxRecDepth 100000 in
set_option maxHeartbeats 2000000 in
theorem iri5_any (t:ByteArray) (w:World):Calls Tryz.prog 38 #[.string t] w (IriIs t w):=by
 obtain⟨u,Hu⟩:=name6 (iriV t) (.slice none 0 0)
 have SL:=hid (show u.size=(#[.int .i64 0,.bool false,.int .i64 0,.string ⟨#[]⟩,.string ⟨#[]⟩,.slice none 0 0]:Array Value).size from by rw[Hu.size];rfl)
 have IL:=hid (show (Tryz.prog.info? 34).map (·.size)=some u.size from infoV6.trans (congrArg some Hu.size.symm))
 have OL:=hid (show u.all (·.oneCell')=true from by rw[←Hu.out];kernel_rfl)
 have HBU:=hid (λW:World=>(show (Instr.build 34 #[(0,.int .i64 8),(3,.string t)]).run Tryz.prog W = .ok (.agg u) W from by rw[←Hu.out];exact build_iri t W))
 obtain⟨z,Hz⟩:=name_itV w.heap.size
 obtain⟨wb,HWB⟩:=name_itV (w.alloc (.cells #[.int .i64 0,.bool false,.int .i64 0,.string ⟨#[]⟩,.string ⟨#[]⟩,.slice none 0 0] 34))
 have HBZ:=hid (show Below w.heap.size w wb from by rw[←HWB.out];exact (Below.refl _ _).alloc (Nat.le_refl _) _)
 have HVZ:=hid (show wb.heap[z]?=some (.cells #[.int .i64 0,.bool false,.int .i64 0,.string ⟨#[]⟩,.string ⟨#[]⟩,.slice none 0 0] 34 (0,0)) from by rw[←HWB.out,←Hz.out];exact heap_alloc_new w _)
 have HR:=hid (λ(w':World) (hb:Below w.heap.size w w')=>(show IriIs t w (.returned (.agg u)) w' from ⟨by rw[←Hu.out],hb⟩))
 clear Hu
 go_enter Tryz.func38,Tryz.ntmps38
 go_upto_region 1 with fail
 rw[HWB.out,Hz.out]
 clear HWB
 go_wp2_with (first
  | ((with_reducible refine at_dst (some 4) ?_);refine build_arm rfl 34 _ rfl #[(0,.int .i64 8),(3,.string t)] (by kernel_rfl) (.agg u) (HBU.out _) ?_)
  | ((with_reducible refine at_st 2 ?_);refine st_row rfl 34 _ _ rfl z (#[.int .i64 0,.bool false,.int .i64 0,.string ⟨#[]⟩,.string ⟨#[]⟩,.slice none 0 0]) u 34 rfl rfl HVZ.out SL.out IL.out OL.out ?_;intro w2 hw2 ht2))
 have HB2:=hid (show Below w.heap.size w w2 from below_turn HBZ.out ht2 (λb hb=>by have hb:b=z:=hb;have h2:w.heap.size=z:=Hz.out;omega))
 refine bodyPost_ret (v:=.agg u) (results_row Tryz.results38 (g:=z) rfl hw2 _ Tryz.underlying34 rfl IL.out) rfl (HR.out _ HB2.out)
theorem build_tr (t:Trip) (W:World):(Instr.build 41 #[(0,.agg (cellsV t.s (.slice none 0 0))),(1,.agg (cellsV t.p (.slice none 0 0))),(2,.agg (cellsV t.o (.slice none 0 0)))]).run Tryz.prog W = .ok (.agg (cellsT t nilS)) W:=by kernel_rfl
theorem bs3_list (x y z:Trip) (w:World):(Instr.buildSlice 22 3 #[(0,.agg (cellsT x nilS)),(1,.agg (cellsT y nilS)),(2,.agg (cellsT z nilS))]).run Tryz.prog w = .ok (.slice (some ⟨w.heap.size,0,none⟩) 3 3) (w.alloc (.cells (cellsT x nilS++cellsT y nilS++cellsT z nilS) 41)):=by kernel_rfl
section
variable {P:Program} {ops:Array Oper} {rest:List Oper} {op:Oper} {a:Act} {w:World} {Q:Exit→Act→World→Prop}
theorem bs_arm (hgd:op.guard=none) (ty:TypeId) (n:Nat) (parts:Array (Nat×Operand)) (ho:op.op = .buildSlice ty n parts) (ps:Array (Nat×Value)) (hps:(parts.map λ(i,x)=>(i,a.eval x))=ps) (v:Value) (w':World) (hv:(Instr.buildSlice ty n ps).run P w = .ok v w') (h:wpList P ops Q rest (a.put op.dst v) w'):wpList P ops Q (op::rest) a w:=
 wpList_plain hgd λ_ hK=>by
  unfold Oper.wp execOp
  simp only[ho]
  have e:(Instr.buildSlice ty n (parts.map λ(i,x)=>(i,a.eval x))).run P w = .ok v w':=by rw[hps];exact hv
  simp only[Sem.run_bind,Sem.run_pure,e,Result.andThen_ok]
  exact hK _ _ h
end
theorem app3_at {A B C:Array Value} (hA:A.size=18) (hB:B.size=18) (j:Nat) (hj:j<18):(A++B++C)[j]?=A[j]?∧(A++B++C)[18+j]?=B[j]?∧(A++B++C)[36+j]?=C[j]?:=by
 have hAB:(A++B).size=36:=by rw[Array.size_append,hA,hB]
 refine⟨?_,?_,?_⟩
 ·rw[Array.getElem?_append_left (by omega),Array.getElem?_append_left (by omega)]
 ·rw[Array.getElem?_append_left (by omega),Array.getElem?_append_right (by omega),hA,Nat.add_sub_cancel_left]
 ·rw[Array.getElem?_append_right (by omega),hAB,Nat.add_sub_cancel_left]
theorem srd3 {w:World} {g:Nat} {x y z:Trip} {T:TypeId} {fr:Nat×Nat} (hx:∀t,t∈[x,y,z]→ScalT t) (h:w.heap[g]?=some (.cells (cellsT x nilS++cellsT y nilS++cellsT z nilS) T fr)):SRd 18 TrR w (λb=>b=g) [x,y,z] (some ⟨g,0,none⟩) 3:=by
 refine⟨rfl,λ_=>⟨_,rfl,rfl,λi t hi=>⟨cellsT t nilS,rfl,λj hj=>?_,nilS,rfl,λn _=>?_⟩⟩⟩
 ·rw[Addr.add_mid,Nat.zero_add,cell_of_row w g (i*18+j) _ T fr h]
  have ha:=app3_at (C:=cellsT z nilS) (cellsT_size x nilS) (cellsT_size y nilS) j hj
  match i,hi with
  | 0,hi=>
   have hi:x=t:=Option.some.inj hi
   rw[←hi]
   rw[Nat.zero_mul,Nat.zero_add]
   exact ha.1
  | 1,hi=>
   have hi:y=t:=Option.some.inj hi
   rw[←hi]
   exact ha.2.1
  | 2,hi=>
   have hi:z=t:=Option.some.inj hi
   rw[←hi]
   exact ha.2.2
  | k+3,hi=>cases hi
 ·have hs:=(hx t (List.mem_of_getElem? hi)).get n
  have hl:=scal_list hs
  have:=VRd.mk (w:=w) (F:=λb=>b=g) (t.get n) none 0 ⟨0,0,none⟩ (λ_=>#[]) (by rw[hl];exact Nat.le_refl _) (by rw[hl];intro h;cases h) (by rw[hl];intro i h;cases h) (by rw[hl];intro i x h;simp at h)
  rw[hl]at this
  exact this
set_option maxRecDepth 100000 in
set_option maxHeartbeats 8000000 in
theorem wakes5_any (w:World) (hgb:GlobB w) (hgt:GlobT w):Calls Tryz.prog 8 #[] w λe w'=>e = .returned (.bool true)∧Below w.heap.size w w':=by
 have HG:=hid (And.intro hgb hgt)
 clear hgb hgt
 obtain⟨ua,Ha⟩:=name6 (iriV ⟨#[97]⟩) (.slice none 0 0)
 obtain⟨up,Hp⟩:=name6 (iriV ⟨#[112]⟩) (.slice none 0 0)
 obtain⟨ub,Hb⟩:=name6 (iriV ⟨#[98]⟩) (.slice none 0 0)
 obtain⟨uc,Hc⟩:=name6 (iriV ⟨#[99]⟩) (.slice none 0 0)
 obtain⟨uq,Hq⟩:=name6 (iriV ⟨#[113]⟩) (.slice none 0 0)
 obtain⟨r1,HR1⟩:=name18 wk1 nilS
 have HT1:=hid (λW:World=>(show (Instr.build 41 #[(0,.agg ua),(1,.agg up),(2,.agg ub)]).run Tryz.prog W = .ok (.agg r1) W from by rw[←Ha.out,←Hp.out,←Hb.out,←HR1.out];exact build_tr wk1 W))
 obtain⟨r2,HR2⟩:=name18 wk2 nilS
 have HT2:=hid (λW:World=>(show (Instr.build 41 #[(0,.agg ua),(1,.agg up),(2,.agg uc)]).run Tryz.prog W = .ok (.agg r2) W from by rw[←Ha.out,←Hp.out,←Hc.out,←HR2.out];exact build_tr wk2 W))
 obtain⟨r3,HR3⟩:=name18 wk3 nilS
 have HT3:=hid (λW:World=>(show (Instr.build 41 #[(0,.agg ub),(1,.agg uq),(2,.agg uc)]).run Tryz.prog W = .ok (.agg r3) W from by rw[←Hb.out,←Hq.out,←Hc.out,←HR3.out];exact build_tr wk3 W))
 have HBS:=hid (λW:World=>(show (Instr.buildSlice 22 3 #[(0,.agg r1),(1,.agg r2),(2,.agg r3)]).run Tryz.prog W = .ok (.slice (some ⟨W.heap.size,0,none⟩) 3 3) (W.alloc (.cells (cellsT wk1 nilS++cellsT wk2 nilS++cellsT wk3 nilS) 41)) from by rw[←HR1.out,←HR2.out,←HR3.out];exact bs3_list wk1 wk2 wk3 W))
 clear HR1 HR2 HR3
 go_enter Tryz.func8,Tryz.ntmps8
 go_wp2_with fail
 refine (iri5_any _ _).mono ?_
 unfold IriIs
 rintro e w1 ⟨rfl,hb⟩
 have HB1:=hid hb
 clear hb
 rw[Ha.out]
 go_wp2_with fail
 refine (iri5_any _ _).mono ?_
 unfold IriIs
 rintro e w2 ⟨rfl,hb⟩
 have HB2:=hid (HB1.out.trans (hb.mono HB1.out.size))
 clear hb
 rw[Hp.out]
 go_wp2_with fail
 refine (iri5_any _ _).mono ?_
 unfold IriIs
 rintro e w3 ⟨rfl,hb⟩
 have HB3:=hid (HB2.out.trans (hb.mono HB2.out.size))
 clear hb
 rw[Hb.out]
 go_wp2_with ((with_reducible refine at_dst (some 10) ?_);refine build_arm rfl 41 _ rfl #[(0,.agg ua),(1,.agg up),(2,.agg ub)] (by kernel_rfl) (.agg r1) (HT1.out _) ?_)
 refine (iri5_any _ _).mono ?_
 unfold IriIs
 rintro e w4 ⟨rfl,hb⟩
 have HB4:=hid (HB3.out.trans (hb.mono HB3.out.size))
 clear hb
 rw[Ha.out]
 go_wp2_with fail
 refine (iri5_any _ _).mono ?_
 unfold IriIs
 rintro e w5 ⟨rfl,hb⟩
 have HB5:=hid (HB4.out.trans (hb.mono HB4.out.size))
 clear hb
 rw[Hp.out]
 go_wp2_with fail
 refine (iri5_any _ _).mono ?_
 unfold IriIs
 rintro e w6 ⟨rfl,hb⟩
 have HB6:=hid (HB5.out.trans (hb.mono HB5.out.size))
 clear hb
 rw[Hc.out]
 go_wp2_with ((with_reducible refine at_dst (some 14) ?_);refine build_arm rfl 41 _ rfl #[(0,.agg ua),(1,.agg up),(2,.agg uc)] (by kernel_rfl) (.agg r2) (HT2.out _) ?_)
 refine (iri5_any _ _).mono ?_
 unfold IriIs
 rintro e w7 ⟨rfl,hb⟩
 have HB7:=hid (HB6.out.trans (hb.mono HB6.out.size))
 clear hb
 rw[Hb.out]
 go_wp2_with fail
 refine (iri5_any _ _).mono ?_
 unfold IriIs
 rintro e w8 ⟨rfl,hb⟩
 have HB8:=hid (HB7.out.trans (hb.mono HB7.out.size))
 clear hb
 rw[Hq.out]
 go_wp2_with fail
 refine (iri5_any _ _).mono ?_
 unfold IriIs
 rintro e w9 ⟨rfl,hb⟩
 have HB9:=hid (HB8.out.trans (hb.mono HB8.out.size))
 clear hb
 rw[Hc.out]
 obtain⟨zl,Hzl⟩:=name_itV w9.heap.size
 obtain⟨wl,HWL⟩:=name_itV (w9.alloc (.cells (cellsT wk1 nilS++cellsT wk2 nilS++cellsT wk3 nilS) 41))
 have HBL:=hid (show Below w.heap.size w wl from by rw[←HWL.out];exact HB9.out.alloc HB9.out.size _)
 have HSL:=hid (show wl.heap[zl]?=some (.cells (cellsT wk1 nilS++cellsT wk2 nilS++cellsT wk3 nilS) 41 (0,0)) from by rw[←HWL.out,←Hzl.out];exact heap_alloc_new w9 _)
 have HZL:=hid (show w.heap.size≤zl from by rw[←Hzl.out];exact HB9.out.size)
 have HBS9:=hid (show (Instr.buildSlice 22 3 #[(0,.agg r1),(1,.agg r2),(2,.agg r3)]).run Tryz.prog w9 = .ok (.slice (some ⟨zl,0,none⟩) 3 3) wl from by rw[←Hzl.out,←HWL.out];exact HBS.out w9)
 clear HWL Hzl HBS
 go_wp2_with (first
  | ((with_reducible refine at_dst (some 18) ?_);refine build_arm rfl 41 _ rfl #[(0,.agg ub),(1,.agg uq),(2,.agg uc)] (by kernel_rfl) (.agg r3) (HT3.out _) ?_)
  | ((with_reducible refine at_dst (some 19) ?_);refine bs_arm rfl 22 3 _ rfl #[(0,.agg r1),(1,.agg r2),(2,.agg r3)] (by kernel_rfl) (.slice (some ⟨zl,0,none⟩) 3 3) wl HBS9.out ?_))
 refine (loadT_any [wk1,wk2,wk3] wk_ok (λb=>b=zl) (some ⟨zl,0,none⟩) 3 3 wl (λg hg=>by have hg:g=zl:=hg;rw[hg];exact blk_lt HSL.out) (srd3 wk_scal HSL.out) (by omega) (glob_under HG.out.1 HBL.out) (globT_under HG.out.2 HBL.out)).mono ?_
 rintro e v1 (⟨hno,_⟩ | ⟨_,_,c,rfl,hb,hs⟩)
 ·exact absurd ⟨by decide,by rw[List.all_eq_true];exact wk_may⟩ hno
 rw[wk_load]at hs
 have HS:=hid hs
 have HV1:=hid (HBL.out.trans (hb.mono HBL.out.size))
 have HFL:=hid (λb (h:wl.heap.size≤b∧b<v1.heap.size)=>h.2)
 clear hs hb
 obtain⟨F,HFN⟩:=name_itV (λb=>wl.heap.size≤b∧b<v1.heap.size)
 rw[HFN.out]at HS
 have HFL:=hid (show ∀b,F b→b<v1.heap.size from by rw[←HFN.out];exact λb h=>h.2)
 clear HFN
 go_wp2_with fail
 refine (len_any HS.out).mono ?_
 rintro e _ ⟨rfl,rfl⟩
 rw[show (([wk1,wk2,wk3].length:Nat):Int)=3 from rfl]
 go_wp2_with fail
 refine (cursor_any HS.out HFL.out 3 (by omega)).mono ?_
 rintro e v2 ⟨q,rfl,hc,hb,hq⟩
 have HC2:=hid hc
 have HV2:=hid (HV1.out.trans (hb.mono HV1.out.size))
 have HQ:=hid (show w.heap.size≤q from Nat.le_trans HV1.out.size hq)
 clear hc hb hq
 go_wp2_with fail
 have hop:=open_any HC2.out (glob_under HG.out.1 HV2.out) (globT_under HG.out.2 HV2.out)
 rw[wk_s1]at hop
 refine hop.mono ?_
 unfold CurDo
 rintro e v3 ⟨rfl,hc,ht⟩
 dsimp only at hc
 have HC3:=hid hc
 have HV3:=hid (below_turn HV2.out ht (λb hb=>by have hb:b=q:=hb;rw[hb];exact HQ.out))
 clear hop hc ht
 dsimp only
 go_wp2_with fail
 have hop:=keyC_any HC3.out
 rw[show keyA ⟨[iriV ⟨#[112]⟩],false⟩=some (iriV ⟨#[112]⟩) from rfl]at hop
 refine hop.mono ?_
 unfold KeyRes
 rintro e v4 ⟨A0,cap0,rfl,hb⟩
 rw[show (some (iriV ⟨#[112]⟩)).getD valZ=iriV ⟨#[112]⟩ from rfl,show (some (iriV ⟨#[112]⟩)).isSome=true from rfl]
 obtain⟨uk,Huk⟩:=name6 (iriV ⟨#[112]⟩) (.slice A0 0 cap0)
 rw[Huk.out]
 have HC4:=hid (HC3.out.on hb)
 have HV4:=hid (HV3.out.trans (hb.mono HV3.out.size))
 clear hop hb
 obtain⟨zk,Hzk⟩:=name_itV v4.heap.size
 obtain⟨vb,HWB⟩:=name_itV (v4.alloc (.cells #[.int .i64 0,.bool false,.int .i64 0,.string ⟨#[]⟩,.string ⟨#[]⟩,.slice none 0 0] 34))
 have HBZ:=hid (show Below v4.heap.size v4 vb from by rw[←HWB.out];exact (Below.refl _ _).alloc (Nat.le_refl _) _)
 have HVZ:=hid (show vb.heap[zk]?=some (.cells #[.int .i64 0,.bool false,.int .i64 0,.string ⟨#[]⟩,.string ⟨#[]⟩,.slice none 0 0] 34 (0,0)) from by rw[←HWB.out,←Hzk.out];exact heap_alloc_new v4 _)
 have SL:=hid (show uk.size=(#[.int .i64 0,.bool false,.int .i64 0,.string ⟨#[]⟩,.string ⟨#[]⟩,.slice none 0 0]:Array Value).size from by rw[Huk.size];rfl)
 have IL:=hid (show (Tryz.prog.info? 34).map (·.size)=some uk.size from infoV6.trans (congrArg some Huk.size.symm))
 have OL:=hid (show uk.all (·.oneCell')=true from by rw[←Huk.out];kernel_rfl)
 have K3:=hid (show uk[3]?=some (.string ⟨#[112]⟩) from by rw[←Huk.out];rfl)
 go_upto_region 8 with ((with_reducible refine at_st 4 ?_);rw[HWB.out,Hzk.out];refine st_row rfl 34 _ _ rfl zk (#[.int .i64 0,.bool false,.int .i64 0,.string ⟨#[]⟩,.string ⟨#[]⟩,.slice none 0 0]) uk 34 rfl rfl HVZ.out SL.out IL.out OL.out ?_;intro v5 hw5 ht5)
 have HB5:=hid (below_turn HBZ.out ht5 (λb hb=>by have hb:b=zk:=hb;have:=Hzk.out;omega))
 have k3:v5.cell? ⟨zk,3,none⟩=some (.string ⟨#[112]⟩):=(cell_of_row v5 zk 3 uk _ _ hw5).trans K3.out
 have HC5:=hid (HC4.out.on HB5.out)
 have HV5:=hid (HV4.out.trans (HB5.out.mono HV4.out.size))
 clear ht5 HWB
 go_wp2_with fail
 have hop:=open_any HC5.out (glob_under HG.out.1 HV5.out) (globT_under HG.out.2 HV5.out)
 rw[wk_s2]at hop
 refine hop.mono ?_
 unfold CurDo
 rintro e v6 ⟨rfl,hc,ht⟩
 dsimp only at hc
 have HC6:=hid hc
 have HV6:=hid (below_turn HV5.out ht (λb hb=>by have hb:b=q:=hb;rw[hb];exact HQ.out))
 clear hop hc ht k3 hw5
 dsimp only
 go_wp2_with fail
 have hop:=next_any HC6.out (glob_under HG.out.1 HV6.out) (globT_under HG.out.2 HV6.out)
 rw[wk_s3]at hop
 refine hop.mono ?_
 unfold CurDo
 rintro e v7 ⟨rfl,hc,ht⟩
 dsimp only at hc
 have HC7:=hid hc
 have HV7:=hid (below_turn HV6.out ht (λb hb=>by have hb:b=q:=hb;rw[hb];exact HQ.out))
 clear hop hc ht
 dsimp only
 go_wp2_with fail
 have hop:=next_any HC7.out (glob_under HG.out.1 HV7.out) (globT_under HG.out.2 HV7.out)
 rw[wk_s4]at hop
 refine hop.mono ?_
 unfold CurDo
 rintro e v8 ⟨rfl,hc,ht⟩
 dsimp only at hc
 have HC8:=hid hc
 have HV8:=hid (below_turn HV7.out ht (λb hb=>by have hb:b=q:=hb;rw[hb];exact HQ.out))
 clear hop hc ht
 dsimp only
 go_wp2_with fail
 have hop:=up_any HC8.out
 rw[wk_s5]at hop
 refine hop.mono ?_
 unfold CurDo
 rintro e v9 ⟨rfl,hc,ht⟩
 dsimp only at hc
 have HC9:=hid hc
 have HV9:=hid (below_turn HV8.out ht (λb hb=>by have hb:b=q:=hb;rw[hb];exact HQ.out))
 clear hop hc ht
 dsimp only
 go_wp2_with fail
 have hop:=next_any HC9.out (glob_under HG.out.1 HV9.out) (globT_under HG.out.2 HV9.out)
 rw[wk_s6]at hop
 refine hop.mono ?_
 unfold CurDo
 rintro e v10 ⟨rfl,hc,ht⟩
 dsimp only at hc
 have HC10:=hid hc
 have HV10:=hid (below_turn HV9.out ht (λb hb=>by have hb:b=q:=hb;rw[hb];exact HQ.out))
 clear hop hc ht
 dsimp only
 go_wp2_with fail
 refine (depth_any HC10.out).mono ?_
 rintro e _ ⟨rfl,rfl⟩
 rw[show ((([iriV ⟨#[113]⟩]:List Val).length:Nat):Int)=1 from rfl]
 go_wp2_with fail
 go_ret
 exact⟨rfl,HV10.out⟩
def Trip.set (t:Trip) (p:Nat) (v:Val):Trip:=if p=0 then ⟨v,t.p,t.o⟩ else if p=1 then ⟨t.s,v,t.o⟩ else ⟨t.s,t.p,v⟩
end Go.Proofs.YtijciakkfpjjbaaGreatDoor
namespace Go.Proofs.YtijciakkfpjjbaaGreatDoor
open Go
open Go.Lib (hid cell_of_heap)
section
variable {T:List Trip} {w:Way}
theorem toA_at {strict:Bool} {v cur:Val} {pre:List Val}:toA T w strict v ⟨pre++[cur],false⟩=match (keysA T w pre).find? (toF strict cur v) with
    | some x=>(⟨pre++[x],false⟩,true)
    | none=>(⟨pre++[cur],true⟩,false):=by
 unfold toA
 rw[List.getLast?_concat,List.dropLast_concat]
 simp only[Bool.false_eq_true,if_false]
 all_goals rfl
theorem nextA_at {cur:Val} {pre:List Val}:nextA T w ⟨pre++[cur],false⟩=toA T w true cur ⟨pre++[cur],false⟩:=by
 unfold nextA
 rw[List.getLast?_concat]
 simp only[Bool.false_eq_true,if_false]
theorem keyA_at {cur:Val} {pre:List Val}:keyA ⟨pre++[cur],false⟩=some cur:=by
 unfold keyA
 rw[List.getLast?_concat]
 rfl
theorem toF_next {cur x:Val}:toF true cur cur x=true↔0<ordV x cur:=by
 unfold toF
 simp only[Bool.and_eq_true,decide_eq_true_eq,if_true]
 omega
theorem rise_find {l:List Val} (hl:Rise ordV l) {f:Val→Bool} {x y:Val} (hx:l.find? f=some x) (hy:y∈l) (hf:f y=true):ordV x y≤0:=by
 obtain⟨_,a,b,rfl,ha⟩:=List.find?_eq_some_iff_append.1 hx
 rw[List.mem_append,List.mem_cons]at hy
 rcases hy with hy | rfl | hy
 ·have:=ha y hy
  rw[hf]at this
  cases this
 ·rw[ordV_refl];exact Int.le_refl _
 ·have:=(List.pairwise_append.1 hl).2.1
  rw[List.pairwise_cons]at this
  have:=this.1 y hy
  omega
end
def wv (w:Way) (t:Trip) (d:Nat):List Val:=[t.get (w.get 0),t.get (w.get 1),t.get (w.get 2)].take d
section
variable {T K:List Trip} {w:Way}
theorem wv_len (t:Trip) {d:Nat} (hd:d≤3):(wv w t d).length=d:=by
 unfold wv
 rw[List.length_take]
 simp only[List.length_cons,List.length_nil]
 omega
theorem wv_at (t:Trip) {d e:Nat} (he:e<d) (hd:d≤3):(wv w t d)[e]?=some (t.get (w.get e)):=by
 unfold wv
 rw[List.getElem?_take_of_lt he]
 rcases (show e=0∨e=1∨e=2 by omega) with rfl | rfl | rfl<;>rfl
theorem wv_succ (t:Trip) {d:Nat} (hd:d<3):wv w t (d+1)=wv w t d++[t.get (w.get d)]:=by
 rcases (show d=0∨d=1∨d=2 by omega) with rfl | rfl | rfl<;>rfl
theorem begins_wv {t u:Trip} {d:Nat} (hd:d≤3):Begins w (wv w t d) u↔∀e,e<d→u.get (w.get e)=t.get (w.get e):=by
 constructor
 ·intro h e he
  exact h e _ (wv_at t he hd)
 ·intro h e v hv
  have hl:e<d:=by
   have:=(List.getElem?_eq_some_iff.1 hv).1
   rwa [wv_len t hd]at this
  rw[wv_at t hl hd]at hv
  injection hv with hv
  rw[←hv]
  exact h e hl
theorem begins_self (t:Trip) {d:Nat} (hd:d≤3):Begins w (wv w t d) t:=(begins_wv hd).2 λ_ _=>rfl
theorem begins_less {t u:Trip} {d:Nat} (hd:d<3) (h:Begins w (wv w t (d+1)) u):Begins w (wv w t d) u:=(begins_wv (by omega)).2 λe he=>(begins_wv (by omega)).1 h e (by omega)
theorem wv_same {t u:Trip} {d:Nat} (hd:d≤3) (h:Begins w (wv w t d) u):wv w u d=wv w t d:=by
 refine List.ext_getElem? λe=>?_
 by_cases he:e<d
 ·rw[wv_at u he hd,wv_at t he hd,(begins_wv hd).1 h e he]
 ·rw[List.getElem?_eq_none (by rw[wv_len u hd];omega),List.getElem?_eq_none (by rw[wv_len t hd];omega)]
theorem between (hK:InWay T K w) {x:Trip} {d:Nat} (hd:d≤3) {n m r:Nat} {s t u:Trip} (hs:K[n]?=some s) (ht:K[m]?=some t) (hu:K[r]?=some u) (h1:n≤m) (h2:m≤r)
    (bs:Begins w (wv w x d) s) (bu:Begins w (wv w x d) u):Begins w (wv w x d) t:=by
 rw[begins_wv hd]at bs bu ⊢
 intro e
 induction e using Nat.strongRecOn with
 | _ e ih=>
  intro he
  have a1:=along_part (d:=e) (by omega) (hK.le hs ht h1) λe' h'=>by rw[bs e' (by omega),ih e' h' (by omega)];exact ordV_refl _
  have a2:=along_part (d:=e) (by omega) (hK.le ht hu h2) λe' h'=>by rw[bu e' (by omega),ih e' h' (by omega)];exact ordV_refl _
  rw[bs e he]at a1
  rw[bu e he]at a2
  have h3:=ordV_anti (t.get (w.get e)) (x.get (w.get e))
  have hx:ScalV (x.get (w.get e)):=by rw[←bs e he];exact (hK.scal' hs).get _
  exact ordV_eq ((hK.scal' ht).get _) hx (by omega)
theorem keys_first (hK:InWay T K w) {d m:Nat} {t:Trip} (hd:d<3) (ht:K[m]?=some t) (hf:∀n u,n<m→K[n]?=some u→¬Begins w (wv w t d) u):∃r,keysA T w (wv w t d)=t.get (w.get d)::r:=by
 obtain⟨kr,km⟩:=keysA_is (w:=w) hK.scal (wv w t d)
 have hl:=wv_len (w:=w) t (d:=d) (by omega)
 have hmem:=(km (t.get (w.get d))).2 ⟨t,(hK.mem t).1 (List.mem_of_getElem? ht),begins_self t (by omega),by rw[hl]⟩
 cases hk:keysA T w (wv w t d) with
 | nil=>rw[hk]at hmem;cases hmem
 | cons x r=>
  rw[hk]at hmem kr
  rcases List.mem_cons.1 hmem with e | e
  ·exact⟨r,by rw[e]⟩
  ·exfalso
   have h1:=(List.pairwise_cons.1 kr).1 _ e
   obtain⟨u,hu1,hu2,hu3⟩:=(km x).1 (by rw[hk];exact List.mem_cons_self)
   obtain⟨n,hn⟩:=List.getElem?_of_mem ((hK.mem u).2 hu1)
   have hnm:m≤n:=Nat.le_of_not_lt λh=>hf n u h hn hu2
   have h2:=hK.mono (pre:=wv w t d) (by omega) ht hn hnm (begins_self t (by omega)) hu2
   rw[hu3,hl]at h2
   have:=ordV_anti x (t.get (w.get d))
   omega
theorem keys_next (hK:InWay T K w) {d m:Nat} {s:Trip} (hd:d<3) (hs:K[m]?=some s) (he:∀n u,m<n→K[n]?=some u→¬Begins w (wv w s (d+1)) u) :
    (∀t,K[m+1]?=some t→Begins w (wv w s d) t→(keysA T w (wv w s d)).find? (toF true (s.get (w.get d)) (s.get (w.get d)))=some (t.get (w.get d))∧ordV (s.get (w.get d)) (t.get (w.get d))<0) ∧
    ((∀t,K[m+1]?=some t→¬Begins w (wv w s d) t)→(keysA T w (wv w s d)).find? (toF true (s.get (w.get d)) (s.get (w.get d)))=none):=by
 obtain⟨kr,km⟩:=keysA_is (w:=w) hK.scal (wv w s d)
 have hl:=wv_len (w:=w) s (d:=d) (by omega)
 rw[hl]at km
 have hbs:=begins_self (w:=w) s (d:=d) (by omega)
 have late:∀n u,K[n]?=some u→Begins w (wv w s d) u→0<ordV (u.get (w.get d)) (s.get (w.get d))→m<n:=λn u hn hu h0=>by
  refine Nat.lt_of_not_le λhnm=>?_
  have:=hK.mono (pre:=wv w s d) (by omega) hn hs hnm hu hbs
  rw[hl]at this
  omega
 constructor
 ·intro t ht hbt
  have hlt:ordV (s.get (w.get d)) (t.get (w.get d))<0:=by
   have h1:=hK.mono (pre:=wv w s d) (by omega) hs ht (by omega) hbs hbt
   rw[hl]at h1
   rcases Int.lt_or_eq_of_le h1 with h | h
   ·exact h
   ·exfalso
    have e:=ordV_eq ((hK.scal' hs).get _) ((hK.scal' ht).get _) h
    refine he (m+1) t (by omega) ht ?_
    rw[wv_succ s hd]
    exact Begins.snoc.2 ⟨hbt,by rw[hl];exact e.symm⟩
  refine⟨?_,hlt⟩
  have hmem:=(km (t.get (w.get d))).2 ⟨t,(hK.mem t).1 (List.mem_of_getElem? ht),hbt,rfl⟩
  have hft:toF true (s.get (w.get d)) (s.get (w.get d)) (t.get (w.get d))=true:=toF_next.2 (by have:=ordV_anti (s.get (w.get d)) (t.get (w.get d));omega)
  cases hn:(keysA T w (wv w s d)).find? (toF true (s.get (w.get d)) (s.get (w.get d))) with
  | none=>exact absurd hft (List.find?_eq_none.1 hn _ hmem)
  | some y=>
   have h1:=rise_find kr hn hmem hft
   obtain⟨u,hu1,hu2,hu3⟩:=(km y).1 (List.mem_of_find?_eq_some hn)
   obtain⟨n,hn'⟩:=List.getElem?_of_mem ((hK.mem u).2 hu1)
   have h2:=toF_next.1 (List.find?_some hn)
   rw[←hu3]at h2
   have h3:=late n u hn' hu2 h2
   have h4:=hK.mono (pre:=wv w s d) (by omega) ht hn' (by omega) hbt hu2
   rw[hl,hu3]at h4
   have:=ordV_anti y (t.get (w.get d))
   have hy:ScalV y:=by rw[←hu3];exact (hK.scal' hn').get _
   rw[ordV_eq (a:=y) (b:=t.get (w.get d)) hy ((hK.scal' ht).get _) (by omega)]
 ·intro hno
  refine List.find?_eq_none.2 λy hy hf=>?_
  obtain⟨u,hu1,hu2,hu3⟩:=(km y).1 hy
  obtain⟨n,hn⟩:=List.getElem?_of_mem ((hK.mem u).2 hu1)
  have h2:=toF_next.1 hf
  rw[←hu3]at h2
  have h3:=late n u hn hu2 h2
  have hb:m+1<K.length:=by have:=(List.getElem?_eq_some_iff.1 hn).1;omega
  have ht:=List.getElem?_eq_getElem hb
  exact hno _ ht (between hK (by omega) hs ht hn (by omega) (by omega) hbs hu2)
def DnA (K:List Trip) (w:Way) (m d:Nat) (c:CurA):Prop:=∃t,K[m]?=some t∧d<3∧c=⟨wv w t d,false⟩∧∀n u,n<m→K[n]?=some u→¬Begins w (wv w t d) u
def UpA (K:List Trip) (w:Way) (m d:Nat) (c:CurA):Prop:=∃s,K[m]?=some s∧d<3∧c=⟨wv w s (d+1),false⟩∧∀n u,m<n→K[n]?=some u→¬Begins w (wv w s (d+1)) u
theorem whole_apart (hK:InWay T K w) {n m:Nat} {s t:Trip} (hs:K[n]?=some s) (ht:K[m]?=some t) (hnm:n<m):¬Begins w (wv w s 3) t∧¬Begins w (wv w t 3) s:=by
 have hlt:along w s t<0:=by
  obtain⟨ln,en⟩:=List.getElem?_eq_some_iff.1 hs
  obtain⟨lm,em⟩:=List.getElem?_eq_some_iff.1 ht
  have:=List.pairwise_iff_getElem.1 hK.rise n m ln lm hnm
  rwa [en,em]at this
 have h0:¬∀e,e<3→ordV (s.get (w.get e)) (t.get (w.get e))=0:=λh=>by
  have:=wget_ne3.1 h
  omega
 refine⟨λh=>h0 λe he=>?_,λh=>h0 λe he=>?_⟩
 ·rw[(begins_wv (by omega)).1 h e he]
  exact ordV_refl _
 ·rw[(begins_wv (by omega)).1 h e he]
  exact ordV_refl _
theorem dn_start (hn:0<K.length):DnA K w 0 0 ⟨[],false⟩:=⟨K[0],List.getElem?_eq_getElem hn,by omega,rfl,λn u h=>absurd h (by omega)⟩
theorem dn_open (hK:InWay T K w) {m d:Nat} {c:CurA} (h:DnA K w m d c):∃t,K[m]?=some t∧c=⟨wv w t d,false⟩∧openA T w c=(⟨wv w t (d+1),false⟩,true)∧(d<2→DnA K w m (d+1) ⟨wv w t (d+1),false⟩)∧(d=2→UpA K w m 2 ⟨wv w t (d+1),false⟩):=by
 obtain⟨t,ht,hd,rfl,hf⟩:=h
 obtain⟨r,hr⟩:=keys_first hK hd ht hf
 refine⟨t,ht,rfl,?_,λh2=>?_,λh2=>?_⟩
 ·unfold openA
  rw[if_neg (by
   rintro (h | h)
   ·have h:(wv w t d).length=3:=h
    rw[wv_len t (by omega)]at h
    omega
   ·cases h),hr,wv_succ t hd]
 ·exact⟨t,ht,by omega,rfl,λn u hn hu hb=>hf n u hn hu (begins_less hd hb)⟩
 ·subst h2
  exact⟨t,ht,by omega,rfl,λn u hn hu=>(whole_apart hK ht hu hn).1⟩
theorem up_next (hK:InWay T K w) {m d:Nat} {c:CurA} (h:UpA K w m d c):∃s,K[m]?=some s∧c=⟨wv w s (d+1),false⟩ ∧
    ((∃t,K[m+1]?=some t∧wv w t d=wv w s d∧nextA T w c=(⟨wv w t (d+1),false⟩,true)∧ordV (s.get (w.get d)) (t.get (w.get d))<0∧(d<2→DnA K w (m+1) (d+1) ⟨wv w t (d+1),false⟩)∧(d=2→UpA K w (m+1) 2 ⟨wv w t (d+1),false⟩)) ∨
     (nextA T w c=(⟨wv w s (d+1),true⟩,false)∧upA ⟨wv w s (d+1),true⟩=(⟨wv w s d,false⟩,true)∧(d=0→K.length=m+1)∧∀e,d=e+1→UpA K w m e ⟨wv w s d,false⟩)):=by
 obtain⟨s,hs,hd,rfl,he⟩:=h
 refine⟨s,hs,rfl,?_⟩
 obtain⟨k1,k2⟩:=keys_next hK hd hs he
 by_cases ht:∃t,K[m+1]?=some t∧Begins w (wv w s d) t
 ·obtain⟨t,ht,hb⟩:=ht
  obtain⟨h1,h2⟩:=k1 t ht hb
  have hsame:=wv_same (by omega) hb
  refine .inl ⟨t,ht,hsame,?_,h2,λh3=>?_,λh3=>?_⟩
  ·rw[wv_succ s hd,nextA_at,toA_at,h1,wv_succ t hd,hsame]
  ·refine⟨t,ht,by omega,rfl,λn u hn hu hbu=>?_⟩
   have hbs:Begins w (wv w t (d+1)) s:=by
    by_cases hnm:n=m
    ·subst hnm
     rw[hs]at hu
     injection hu with hu
     rwa [←hu]at hbu
    ·exact between hK (by omega) hu hs ht (by omega) (by omega) hbu (begins_self t (by omega))
   have:=(begins_wv (by omega)).1 hbs d (by omega)
   rw[this,ordV_refl]at h2
   omega
  ·subst h3
   exact⟨t,ht,by omega,rfl,λn u hn hu=>(whole_apart hK ht hu hn).1⟩
 ·have hno:∀t,K[m+1]?=some t→¬Begins w (wv w s d) t:=λt ht2 hb=>ht ⟨t,ht2,hb⟩
  refine .inr ⟨?_,?_,λh0=>?_,λe h0=>?_⟩
  ·rw[wv_succ s hd,nextA_at,toA_at,k2 hno]
  ·unfold upA
   rw[wv_succ s hd,if_neg (by simp)]
   simp
  ·subst h0
   have:=(List.getElem?_eq_some_iff.1 hs).1
   by_cases hl:m+1<K.length
   ·exact absurd (Begins.nil w _) (hno _ (List.getElem?_eq_getElem hl))
   ·omega
  ·subst h0
   refine⟨s,hs,by omega,rfl,λn u hn hu hbu=>?_⟩
   have hb:m+1<K.length:=by have:=(List.getElem?_eq_some_iff.1 hu).1;omega
   have ht2:=List.getElem?_eq_getElem hb
   exact hno _ ht2 (between hK (by omega) hs ht2 hu (by omega) (by omega) (begins_self s (by omega)) hbu)
end
end Go.Proofs.YtijciakkfpjjbaaGreatDoor
namespace Go.Proofs.YtijciakkfpjjbaaGreatDoor
open Go Go.RowKit Go.Maps
open Go.Lib (hid cell_of_heap)
theorem infoTrs:(Tryz.prog.info? 41).map (λi=>(i.zero,i.size,i.bytes))=some (some (.agg #[.int .i64 0,.bool false,.int .i64 0,.string ⟨#[]⟩,.string ⟨#[]⟩,.slice none 0 0,.int .i64 0,.bool false,.int .i64 0,.string ⟨#[]⟩,.string ⟨#[]⟩,.slice none 0 0,.int .i64 0,.bool false,.int .i64 0,.string ⟨#[]⟩,.string ⟨#[]⟩,.slice none 0 0]),18,240):=by kernel_rfl
theorem bs1_list (x0 x1 x2 x3 x4 x5 x6 x7 x8 x9 x10 x11 x12 x13 x14 x15 x16 x17:Value) (w:World):(Instr.buildSlice 22 1 #[(0,.agg #[x0,x1,x2,x3,x4,x5,x6,x7,x8,x9,x10,x11,x12,x13,x14,x15,x16,x17])]).run Tryz.prog w = .ok (.slice (some ⟨w.heap.size,0,none⟩) 1 1) (w.alloc (.cells #[x0,x1,x2,x3,x4,x5,x6,x7,x8,x9,x10,x11,x12,x13,x14,x15,x16,x17] 41)):=by kernel_rfl
theorem bs1_run (c:Array Value) (hc:c.size=18) (w:World):(Instr.buildSlice 22 1 #[(0,.agg c)]).run Tryz.prog w = .ok (.slice (some ⟨w.heap.size,0,none⟩) 1 1) (w.alloc (.cells c 41)):=by
 obtain⟨l⟩:=c
 match l,hc with
 | [x0,x1,x2,x3,x4,x5,x6,x7,x8,x9,x10,x11,x12,x13,x14,x15,x16,x17],_=>exact bs1_list x0 x1 x2 x3 x4 x5 x6 x7 x8 x9 x10 x11 x12 x13 x14 x15 x16 x17 w
end Go.Proofs.YtijciakkfpjjbaaGreatDoor
namespace Go.Proofs.YtijciakkfpjjbaaGreatDoor
open Go
open Go.Lib (hid cell_of_heap)
theorem set_get (t:Trip) (v:Val) {p e:Nat} (hp:p<3) (he:e<3):(t.set p v).get e=if e=p then v else t.get e:=by
 rcases (show p=0∨p=1∨p=2 by omega) with rfl | rfl | rfl<;>rcases (show e=0∨e=1∨e=2 by omega) with rfl | rfl | rfl<;>rfl
def WkA (K:List Trip) (w:Way) (m d:Nat) (c:CurA) (wt:Trip) (G:List Trip):Prop:=DnA K w m d c∧(∀t,K[m]?=some t→∀e,e<d→wt.get e=t.get (w.get e))∧G=K.take m
def WkB (K:List Trip) (w:Way) (m d:Nat) (c:CurA) (wt:Trip) (G:List Trip):Prop:=UpA K w m d c∧(∀t,K[m]?=some t→∀e,e<d+1→wt.get e=t.get (w.get e))∧G=K.take (m+1)
section
variable {T K:List Trip} {w:Way} {m d:Nat} {c:CurA} {wt:Trip} {G:List Trip}
theorem wv_key (t:Trip) {d:Nat} (hd:d<3):keyA ⟨wv w t (d+1),false⟩=some (t.get (w.get d)):=by rw[wv_succ t hd,keyA_at]
theorem set_way {t:Trip} {d:Nat} (hd:d<3) (h:∀e,e<d→wt.get e=t.get (w.get e)):∀e,e<d+1→(wt.set d (t.get (w.get d))).get e=t.get (w.get e):=λe he=>by
 rw[set_get _ _ hd (by omega)]
 by_cases e0:e=d
 ·rw[if_pos e0,e0]
 ·rw[if_neg e0,h e (by omega)]
theorem WkA.start (hn:0<K.length) (wt:Trip):WkA K w 0 0 ⟨[],false⟩ wt []:=⟨dn_start hn,λ_ _ e he=>absurd he (by omega),rfl⟩
theorem WkA.len (h:WkA K w m d c wt G):c.way.length=d∧d<3∧m<K.length:=by
 obtain⟨⟨t,ht,hd,rfl,_⟩,_,_⟩:=h
 exact⟨wv_len t (by omega),hd,(List.getElem?_eq_some_iff.1 ht).1⟩
theorem WkB.len (h:WkB K w m d c wt G):c.way.length=d+1∧d<3∧m<K.length:=by
 obtain⟨⟨t,ht,hd,rfl,_⟩,_,_⟩:=h
 exact⟨wv_len t (by omega),hd,(List.getElem?_eq_some_iff.1 ht).1⟩
def Full (w:Way) (t wt:Trip):Prop:=∀e,e<3→wt.get e=t.get (w.get e)
theorem WkA.step (hK:InWay T K w) (h:WkA K w m d c wt G):∃v c',openA T w c=(c',true)∧keyA c'=some v∧c'.way.length=d+1∧(∃pre,v∈keysA T w pre) ∧
    (d<2→WkA K w m (d+1) c' (wt.set d v) G)∧(d=2→∃t,t∈K∧Full w t (wt.set d v)∧WkB K w m 2 c' (wt.set d v) (G++[t])):=by
 obtain⟨h1,h2,rfl⟩:=h
 have hd:d<3:=by obtain⟨_,_,hd,_⟩:=h1;exact hd
 obtain⟨t,ht,rfl,ho,hdn,hup⟩:=dn_open hK h1
 have hs:=set_way hd (h2 t ht)
 refine⟨_,_,ho,wv_key t hd,wv_len t (by omega),⟨wv w t d,?_⟩,λh=>⟨hdn h,λu hu=>?_,rfl⟩,λh=>⟨t,List.mem_of_getElem? ht,?_,hup h,λu hu=>?_,?_⟩⟩
 ·exact ((keysA_is (w:=w) hK.scal _).2 _).2 ⟨t,(hK.mem t).1 (List.mem_of_getElem? ht),begins_self t (by omega),by rw[wv_len t (by omega)]⟩
 ·rw[ht]at hu
  injection hu with hu
  subst hu
  exact hs
 ·subst h
  exact hs
 ·rw[ht]at hu
  injection hu with hu
  subst hu
  subst h
  exact hs
 ·rw[List.take_add_one,ht]
  rfl
theorem WkB.step (hK:InWay T K w) (h:WkB K w m d c wt G) :
    (∃v c',nextA T w c=(c',true)∧keyA c'=some v∧c'.way.length=d+1∧(∃pre,v∈keysA T w pre)∧ordV (wt.get d) v<0 ∧
     (d<2→WkA K w (m+1) (d+1) c' (wt.set d v) G)∧(d=2→∃t,t∈K∧Full w t (wt.set d v)∧WkB K w (m+1) 2 c' (wt.set d v) (G++[t]))) ∨
    (∃c' c'',nextA T w c=(c',false)∧upA c'=(c'',true)∧c''.way.length=d∧(d=0→G=K)∧∀e,d=e+1→WkB K w m e c'' wt G):=by
 obtain⟨h1,h2,rfl⟩:=h
 have hd:d<3:=by obtain⟨_,_,hd,_⟩:=h1;exact hd
 obtain⟨s,hs,rfl,hor⟩:=up_next hK h1
 have hsw:=h2 s hs
 rcases hor with⟨t,ht,hsame,hn,hlt,hdn,hup⟩ | ⟨hn,hu,h0,he⟩
 ·have hst:∀e,e<d→wt.get e=t.get (w.get e):=λe he=>by
    rw[hsw e (by omega)]
    have a:=wv_at (w:=w) s he (by omega)
    have b:=wv_at (w:=w) t he (by omega)
    rw[hsame,a]at b
    injection b
  have hset:=set_way hd hst
  refine .inl ⟨_,_,hn,wv_key t hd,wv_len t (by omega),⟨wv w t d,?_⟩,by rw[hsw d (by omega)];exact hlt,λh=>⟨hdn h,λu hu=>?_,rfl⟩,λh=>⟨t,List.mem_of_getElem? ht,?_,hup h,λu hu=>?_,?_⟩⟩
  ·exact ((keysA_is (w:=w) hK.scal _).2 _).2 ⟨t,(hK.mem t).1 (List.mem_of_getElem? ht),begins_self t (by omega),by rw[wv_len t (by omega)]⟩
  ·rw[ht]at hu
   injection hu with hu
   subst hu
   exact hset
  ·subst h
   exact hset
  ·rw[ht]at hu
   injection hu with hu
   subst hu
   subst h
   exact hset
  ·rw[List.take_add_one (i:=m+1),ht]
   rfl
 ·refine .inr ⟨_,_,hn,hu,wv_len s (by omega),λh=>?_,λe h=>⟨he e h,λu hu=>?_,rfl⟩⟩
  ·rw[←h0 h,List.take_length]
  ·rw[hs]at hu
   injection hu with hu
   subst hu
   exact λe2 h2=>hsw e2 (by omega)
def posA (m d:Nat):Nat:=8*m+d
def posB (m d:Nat):Nat:=8*m+5-d
end
end Go.Proofs.YtijciakkfpjjbaaGreatDoor
namespace Go.Proofs.YtijciakkfpjjbaaGreatDoor
open Go Go.RowKit Go.Maps
open Go.Lib (hid cell_of_heap)
def OpR:Lies (Int×Val):=λw F o c=>∃s,c=#[.int .i64 o.1]++cellsV o.2 s∧VRd w F o.2 (.agg (cellsV o.2 s))
theorem OpR.good:OpR.Good:=⟨fun⟨s,e,h⟩ hk=>⟨s,e,h.keep hk⟩,fun⟨s,e,h⟩ hF=>⟨s,e,h.mono hF⟩⟩
theorem OpR.cells {w:World} {F:Nat→Prop} {L:List (Int×Val)} {A:Option Addr} {n:Nat} (h:SRd 7 OpR w F L A n) {k:Nat} {o:Int×Val} (ho:L[k]?=some o) :
    ∃ad s,A=some ad∧F ad.block∧w.cell? (ad.add (k*7))=some (.int .i64 o.1)∧(∀j,j<(cellsV o.2 s).size→w.cell? (((ad.add (k*7)).add 1).add j)=(cellsV o.2 s)[j]?)∧VRd w F o.2 (.agg (cellsV o.2 s)):=by
 obtain⟨ad,c,e,hF,hs,hc,s,rfl,hr⟩:=h.at_ ho
 refine⟨ad,s,e,hF,?_,λj hj=>?_,hr⟩
 ·have:=hc 0 (by omega)
  rw[Nat.add_zero]at this
  rw[this]
  rfl
 ·have hj:j<6:=hj
  have:=hc (1+j) (by omega)
  rw[add_of_add,add_of_add,this,Array.getElem?_append_right (by show 1≤1+j;omega)]
  congr 1
  show 1+j-1=j
  omega
structure Two (F:Nat→Prop) (w0:World) (q1 q2 j:Nat) (T:List Trip) (c d:CurA) (wx:World):Prop where
 b:Below w0.heap.size w0 wx
 c1:CurRd F wx q1 j T c
 c2:CurRd F wx q2 j T d
 ne:q1≠q2
 l1:w0.heap.size≤q1
 l2:w0.heap.size≤q2
section
variable {F:Nat→Prop} {w0 w w':World} {q1 q2 j:Nat} {T:List Trip} {c d:CurA}
theorem CurRd.turn {q:Nat} (h:CurRd F w q j T c) {S:Nat→Prop} (ht:Turn S w w') (h1:∀b,F b→¬S b) (h2:¬S q):CurRd F w' q j T c:=by
 obtain⟨cc,ix,cs,S,s,at_,en,hw,hn⟩:=h
 exact⟨cc,ix,cs,S,s,at_,en,hw.turn ht h1 h2,hn⟩
theorem CurRd.fq {q:Nat} (h:CurRd F w q j T c):¬F q:=by
 obtain⟨cc,ix,cs,S,s,at_,en,hw,hn⟩:=h
 exact hw.fq
theorem CurRd.lt {q:Nat} (h:CurRd F w q j T c):q<w.heap.size:=by
 obtain⟨cc,ix,cs,S,s,at_,en,hw,hn⟩:=h
 exact blk_lt hw.cur
theorem Two.on (h:Two F w0 q1 q2 j T c d w) (hb:Below w.heap.size w w'):Two F w0 q1 q2 j T c d w':=
 ⟨h.b.trans (hb.mono h.b.size),h.c1.on hb,h.c2.on hb,h.ne,h.l1,h.l2⟩
theorem Two.do1 (h:Two F w0 q1 q2 j T c d w) {c':CurA} (hc:CurRd F w' q1 j T c') (ht:Turn (λb=>b=q1) w w'):Two F w0 q1 q2 j T c' d w':=
 ⟨below_turn h.b ht (λb hb=>by have hb:b=q1:=hb;rw[hb];exact h.l1),hc,h.c2.turn ht (λb hb e=>h.c1.fq (by have e:b=q1:=e;rw[←e];exact hb)) (λe=>h.ne (Eq.symm e)),h.ne,h.l1,h.l2⟩
theorem Two.do2 (h:Two F w0 q1 q2 j T c d w) {d':CurA} (hc:CurRd F w' q2 j T d') (ht:Turn (λb=>b=q2) w w'):Two F w0 q1 q2 j T c d' w':=
 ⟨below_turn h.b ht (λb hb=>by have hb:b=q2:=hb;rw[hb];exact h.l2),h.c1.turn ht (λb hb e=>h.c2.fq (by have e:b=q2:=e;rw[←e];exact hb)) (λe=>h.ne e),hc,h.ne,h.l1,h.l2⟩
end
theorem scal_rd (w:World) (F:Nat→Prop) {v:Val} (h:v.list=[]) (A:Option Addr) (cap:Nat):VRd w F v (.agg (cellsV v (.slice A 0 cap))):=by
 have:=VRd.mk (w:=w) (F:=F) v A cap ⟨0,0,none⟩ (λ_=>#[]) (by rw[h];exact Nat.zero_le _) (by rw[h];intro h;cases h) (by rw[h];intro i h;cases h) (by rw[h];intro i x h;simp at h)
 rw[h]at this
 exact this
theorem sameW_any (a b:Val) (hs:sizeL a.list≤999999999) (F G:Nat→Prop) (u1 u2:Value) (w:World) (hF:∀g,F g→g<w.heap.size) (hG:∀g,G g→g<w.heap.size) (h1:VRd w F a u1) (h2:VRd w G b u2) :
    Calls Tryz.prog 28 #[u1,u2] w (ToldB (sameB a b) w):=by
 obtain⟨A,ca,rfl,_,la⟩:=h1.inv
 obtain⟨B,cb,rfl,_,lb⟩:=h2.inv
 exact same_step a b A B ca cb w hF hG la lb (λw' x1 x2 x3 x4=>row_any (sizeL a.list+1) a.list b.list (by omega) F G A B _ _ ca cb w' (by omega) x3 x4 x1 x2)
structure KeyV (v:Val):Prop where
 list:v.list=[]
 fit:FitV v
 k5:v.kind≠5
theorem sameK_any {a b:Val} (ha:KeyV a) (hb:KeyV b) (A B:Option Addr) (ca cb:Nat) (w:World) :
    Calls Tryz.prog 28 #[.agg (cellsV a (.slice A 0 ca)),.agg (cellsV b (.slice B 0 cb))] w (ToldB (sameB a b) w):=
 sameW_any a b (by rw[ha.list];decide) (λ_=>False) (λ_=>False) _ _ w (λ_ h=>h.elim) (λ_ h=>h.elim) (scal_rd w _ ha.list A ca) (scal_rd w _ hb.list B cb)
theorem keyV_of {w:Way} {T:List Trip} (hT:∀t,t∈T→ScalT t) (hf:∀t,t∈T→∀n,FitV (t.get n)) {pre:List Val} {v:Val} (h:v∈keysA T w pre):KeyV v:=by
 obtain⟨t,ht,_,rfl⟩:=((keysA_is hT pre).2 v).1 h
 have hs:=(hT t ht).get (w.get pre.length)
 have:=hs.2.1
 exact⟨scal_list hs,hf t ht _,by omega⟩
theorem keyV_Z:KeyV valZ:=⟨rfl,⟨by decide,by decide,by decide⟩,by decide⟩
theorem bs_orders (W:World):(Instr.buildSlice 28 6 #[(0,.string ⟨#[115,112,111]⟩),(1,.string ⟨#[115,111,112]⟩),(2,.string ⟨#[112,115,111]⟩),(3,.string ⟨#[112,111,115]⟩),(4,.string ⟨#[111,115,112]⟩),(5,.string ⟨#[111,112,115]⟩)]).run Tryz.prog W = .ok (.slice (some ⟨W.heap.size,0,none⟩) 6 6) (W.alloc (.cells #[.string (wayT 0),.string (wayT 1),.string (wayT 2),.string (wayT 3),.string (wayT 4),.string (wayT 5)] 9)):=by kernel_rfl
theorem order_at {W:World} {g:Nat} {fr:Nat×Nat} {T:TypeId} (h:W.heap[g]?=some (.cells #[.string (wayT 0),.string (wayT 1),.string (wayT 2),.string (wayT 3),.string (wayT 4),.string (wayT 5)] T fr)) {r:Nat} (hr:r<6):W.cell? ⟨g,r,none⟩=some (.string (wayT r)):=by
 rcases (show r=0∨r=1∨r=2∨r=3∨r=4∨r=5 by omega) with rfl | rfl | rfl | rfl | rfl | rfl<;>exact cell_of_heap h _
section
variable {P:Program} {ops:Array Oper} {rest:List Oper} {op:Oper} {a:Act} {w:World} {Q:Exit→Act→World→Prop}
theorem ld_armG (hgd:Region.wanted op (yielded ops a.tmps)=true) (ty:TypeId) (x:Operand) (ho:op.op = .load ty x) {p:Addr} (hx:a.eval x = .pointer (some p)) (c:Array Value) (d:TypeDesc) (hc:∀j,j<c.size→w.cell? (p.add j)=c[j]?)
    (hu:P.underlying ty=some d) (hd:d.isRow=true) (hi:(P.info? ty).map (·.size)=some c.size) (h:wpList P ops Q rest (a.put op.dst (.agg c)) w):wpList P ops Q (op::rest) a w:=
 wpList_step λK hK=>by
  rw[if_pos hgd]
  unfold Oper.wp execOp
  simp only[ho,hx,Instr.loadAt,Instr.sureAddr,Sem.run_bind,Sem.run_pure,Result.andThen_ok,run_loadVar_at w p ty c d hc hu hd hi]
  exact hK _ _ h
end
theorem row_at {w:World} {g:Nat} {c:Array Value} {T:TypeId} {fr:Nat×Nat} (h:w.heap[g]?=some (.cells c T fr)) (j:Nat) (_:j<c.size):w.cell? ((⟨g,0,none⟩:Addr).add j)=c[j]?:=by
 rw[Addr.add_mid,Nat.zero_add]
 exact cell_of_row w g j c T fr h
theorem add_blk (a:Addr) (j:Nat):(a.add j).block=a.block:=by
 unfold Addr.add
 split<;>rfl
theorem build_trp (t:Trip) (ss:Nat→Value) (W:World):(Instr.build 41 #[(0,.agg (cellsV (t.get 0) (ss 0))),(1,.agg (cellsV (t.get 1) (ss 1))),(2,.agg (cellsV (t.get 2) (ss 2)))]).run Tryz.prog W = .ok (.agg (cellsT t ss)) W:=by kernel_rfl
structure AllM (w:World) (T:List Trip) (S:Value) (wx:World):Prop where
 hb:Below w.heap.size w wx
 own:SOwn 41 18 TrS wx (λb=>w.heap.size≤b∧b<wx.heap.size) T S
theorem AllM.on {w wx w':World} {T:List Trip} {S:Value} (h:AllM w T S wx) (hb:Below wx.heap.size wx w'):AllM w T S w':=
 ⟨h.hb.trans (hb.mono h.hb.size),(h.own.turn TrS.good (Turn.of_below hb) (λb hb=>hb.2) (λb hb=>λe=>by have e:wx.heap.size≤b:=e;have:=hb.2;omega)).mono TrS.good λb h1=>⟨h1.1,Nat.lt_of_lt_of_le h1.2 hb.size⟩⟩
theorem AllM.more {w wr w':World} {g cap n:Nat} {S:Value} {T:List Trip} {t:Trip} (h:AllM w T S wr) (hg:wr.grownBy w' S.ownBlock) (hl:S.ownBlock=some g∨wr.heap.size≤g) (hgw:g<w'.heap.size)
    (ho:SOwn 41 18 TrS w' (λb=>(w.heap.size≤b∧b<wr.heap.size)∨b=g) (T++[t]) (.slice (some ⟨g,0,none⟩) n cap)):AllM w (T++[t]) (.slice (some ⟨g,0,none⟩) n cap) w':=by
 have hB:∀b,S.ownBlock=some b→w.heap.size≤b∧b<wr.heap.size:=λb hb=>by
  obtain⟨_,_,_,hF,_⟩:=h.own
  exact hF b hb
 refine⟨below_turn h.hb (Turn.of_grown hg) (λb hb=>(hB b hb.symm).1),ho.mono TrS.good λb hb=>?_⟩
 rcases hb with hb | rfl
 ·exact⟨hb.1,Nat.lt_of_lt_of_le hb.2 hg.size⟩
 ·refine⟨?_,hgw⟩
  rcases hl with h1 | h1
  ·exact (hB _ h1).1
  ·exact Nat.le_trans h.hb.size h1
theorem sameB_iff {a b:Val}:sameB a b=true↔a=b:=by
 constructor
 ·intro h
  by_cases e:a=b
  ·exact e
  ·rw[sameB_no e]at h;cases h
 ·rintro rfl
  exact sameB_refl _
def KeyT (t:Trip):Prop:=∀n,KeyV (t.get n)
theorem keyT_of {t:Trip} (h:ScalT t) (hf:∀n,FitV (t.get n)):KeyT t:=λn=>⟨scal_list (h.get n),hf n,by have:=(h.get n).2.1;omega⟩
structure CellT (c:Array Value) (t:Trip):Prop where
 key:KeyT t
 ex:∃ss:Nat→Value,(∀i,i<3→∃A cap,ss i = .slice A 0 cap)∧c=cellsT t ss
theorem TrS.cellT {w:World} {F:Nat→Prop} {t:Trip} {c:Array Value} (h:TrS w F t c):CellT c t:=by
 obtain⟨h1,h2,ss,h3,e⟩:=h
 exact⟨keyT_of h1 h2,ss,h3,e⟩
theorem CellT.size {c:Array Value} {t:Trip} (h:CellT c t):c.size=18:=by
 obtain⟨_,ss,_,rfl⟩:=h
 rfl
def boolsC (f:Nat→Bool) (n:Nat):List Value:=(List.range n).map λk=>.bool (f k)
theorem boolsC_at (f:Nat→Bool) {n k:Nat} (h:k<n):(boolsC f n)[k]?=some (.bool (f k)):=by
 unfold boolsC
 rw[List.getElem?_map,List.getElem?_range h]
 rfl
theorem boolsC_set (f:Nat→Bool) {n k:Nat} (b:Bool):(boolsC f n).set k (.bool b)=boolsC (λi=>if i=k then b else f i) n:=by
 refine List.ext_getElem? λi=>?_
 by_cases hi:i<n
 ·rw[boolsC_at _ hi,List.getElem?_set]
  by_cases e:k=i
  ·subst e
   rw[if_pos rfl,if_pos (by unfold boolsC;simpa using hi),if_pos rfl]
  ·rw[if_neg e,boolsC_at _ hi,if_neg (λh=>e h.symm)]
 ·rw[List.getElem?_eq_none (by unfold boolsC;simp;omega),List.getElem?_eq_none (by unfold boolsC;simp;omega)]
theorem boolsC_congr {f g:Nat→Bool} {n:Nat} (h:∀i,i<n→f i=g i):boolsC f n=boolsC g n:=by
 refine List.ext_getElem? λi=>?_
 by_cases hi:i<n
 ·rw[boolsC_at _ hi,boolsC_at _ hi,h i hi]
 ·rw[List.getElem?_eq_none (by unfold boolsC;simp;omega),List.getElem?_eq_none (by unfold boolsC;simp;omega)]
structure OnM (w:World) (g n:Nat) (f:Nat→Bool) (wx:World):Prop where
 hb:Below w.heap.size w wx
 g0:w.heap.size≤g
 row:wx.ownsRow 0 4 1 (.slice (some ⟨g,0,none⟩) n n) n (boolsC f n)
theorem OnM.on {w wx w':World} {g n:Nat} {f:Nat→Bool} (h:OnM w g n f wx) (hb:Below wx.heap.size wx w'):OnM w g n f w':=
 ⟨h.hb.trans (hb.mono h.hb.size),h.g0,(Turn.of_below hb).owns h.row (λb hb2 e=>by have e:wx.heap.size≤b:=e;obtain⟨cur,hc⟩:=own_type h.row hb2;have:=blk_lt hc;omega)⟩
theorem OnM.drew {w wx:World} {g n:Nat} {f:Nat→Bool} (h:OnM w g n f wx):OnM w g n f wx.drew:=h.on (Below.refl _ _).drew
theorem OnM.at_ {w wx:World} {g n k:Nat} {f:Nat→Bool} (h:OnM w g n f wx) (hk:k<n):wx.cell? ⟨g,k,none⟩=some (.bool (f k)):=by rw[h.row.cellAt k (by omega)];exact boolsC_at f hk
theorem OnM.set {w wx:World} {g n k:Nat} {f f':Nat→Bool} (h:OnM w g n f wx) (b:Bool) (hf:∀i,i<n→f' i=if i=k then b else f i):OnM w g n f' (wx.setCell ⟨g,k,none⟩ (.bool b)):=by
 obtain⟨h1,h2⟩:=h.row.stored k (.bool b)
 rw[boolsC_set]at h1
 refine⟨below_turn h.hb (Turn.of_grown h2) (λq hq=>?_),h.g0,by rw[boolsC_congr hf];exact h1⟩
 injection hq with hq
 rw[hq]
 exact h.g0
theorem idx_tr (ad:Addr) (n cap a:Nat) (ha:a<n) (w:World):(Instr.indexAt 22 (.slice (some ad) n cap) (.int .i64 (a:Nat))).run Tryz.prog w = .ok (.pointer (some (ad.add (a*18)))) w:=by
 have e1:(0:Int)≤a:=by omega
 have e2:(a:Int)<n:=by omega
 go_simp
theorem TrS.cells {w:World} {F:Nat→Prop} {L:List Trip} {A:Option Addr} {n:Nat} (h:SRd 18 TrS w F L A n) {k:Nat} {t:Trip} (ht:L[k]?=some t) :
    ∃ad c,A=some ad∧F ad.block∧CellT c t∧∀j,j<c.size→w.cell? ((ad.add (k*18)).add j)=c[j]?:=by
 obtain⟨ad,c,e,hF,hs,hc,hr⟩:=h.at_ ht
 exact⟨ad,c,e,hF,hr.cellT,λj hj=>by rw[add_of_add];exact hc j (by omega)⟩
section
variable {K T:List Trip} {i k:Nat} {t u:Trip}
end
end Go.Proofs.YtijciakkfpjjbaaGreatDoor
namespace Go.Proofs.YtijciakkfpjjbaaGreatDoor
open Go Go.RowKit
open Go.Lib (hid cell_of_heap)
def flatV (cs:Nat→Array Value) (n:Nat):List Value:=(List.range n).flatMap λi=>(cs i).toList
theorem flatV_succ (cs:Nat→Array Value) (n:Nat):flatV cs (n+1)=flatV cs n++(cs n).toList:=by unfold flatV;rw[List.range_succ];simp
theorem flatV_congr {cs ds:Nat→Array Value} {n:Nat} (h:∀i,i<n→cs i=ds i):flatV cs n=flatV ds n:=by
 induction n with
 | zero=>rfl
 | succ n ih=>rw[flatV_succ,flatV_succ,ih (λi hi=>h i (by omega)),h n (by omega)]
theorem flatV_length {cs:Nat→Array Value} {n:Nat} (h:∀i,i<n→(cs i).size=6):(flatV cs n).length=n*6:=by
 induction n with
 | zero=>rfl
 | succ n ih=>rw[flatV_succ,List.length_append,ih (λi hi=>h i (by omega))];simp[h n (by omega)];omega
theorem flatV_at {cs:Nat→Array Value} {n i j:Nat} (h:∀i,i<n→(cs i).size=6) (hi:i<n) (hj:j<6):(flatV cs n)[i*6+j]?=(cs i)[j]?:=by
 induction n with
 | zero=>omega
 | succ n ih=>
  rw[flatV_succ]
  have hl:=flatV_length (cs:=cs) (n:=n) (λi hi=>h i (by omega))
  by_cases he:i=n
  ·subst he
   rw[List.getElem?_append_right (by omega),hl,show i*6+j-i*6=j by omega]
   simp
  ·rw[List.getElem?_append_left (by omega)]
   exact ih (λi hi=>h i (by omega)) (by omega)
inductive VOwn (w:World):(Nat→Prop)→Val→Value→Prop where
 | mk (v:Val) (F:Nat→Prop) (s:Value) (cs:Nat→Array Value) (Fs:Nat→Nat→Prop) (hrow:w.ownsRow 0 34 6 s v.list.length (flatV cs v.list.length)) (h6:∀i,i<v.list.length→(cs i).size=6)
     (hF:∀g,s.ownBlock=some g→F g) (hFs:∀i b,i<v.list.length→Fs i b→F b∧s.ownBlock≠some b) (hdis:∀i j b,i<v.list.length→j<v.list.length→i≠j→Fs i b→¬Fs j b)
     (hr:∀i x,v.list[i]?=some x→VOwn w (Fs i) x (.agg (cs i))):VOwn w F v (.agg (cellsV v s))
def LOwn (w:World) (F:Nat→Prop) (l:List Val) (s:Value):Prop:=
 ∃(cs:Nat→Array Value) (Fs:Nat→Nat→Prop),w.ownsRow 0 34 6 s l.length (flatV cs l.length)∧(∀i,i<l.length→(cs i).size=6)∧(∀g,s.ownBlock=some g→F g) ∧
  (∀i b,i<l.length→Fs i b→F b∧s.ownBlock≠some b)∧(∀i j b,i<l.length→j<l.length→i≠j→Fs i b→¬Fs j b)∧∀i x,l[i]?=some x→VOwn w (Fs i) x (.agg (cs i))
section
variable {w w':World} {F F':Nat→Prop} {v:Val} {u s:Value} {l:List Val}
theorem VOwn.inv (h:VOwn w F v u):∃s,u = .agg (cellsV v s)∧LOwn w F v.list s:=by
 cases h with
 | mk _ _ s cs Fs hrow h6 hF hFs hdis hr=>exact⟨s,rfl,cs,Fs,hrow,h6,hF,hFs,hdis,hr⟩
theorem VOwn.of_list (h:LOwn w F v.list s):VOwn w F v (.agg (cellsV v s)):=by
 obtain⟨cs,Fs,hrow,h6,hF,hFs,hdis,hr⟩:=h
 exact .mk v F s cs Fs hrow h6 hF hFs hdis hr
theorem VOwn.turn (h:VOwn w F v u) {S:Nat→Prop} (ht:Turn S w w') (hS:∀b,F b→¬S b):VOwn w' F v u:=by
 induction h with
 | mk v F s cs Fs hrow h6 hF hFs hdis hr ih=>
  exact .mk v F s cs Fs (ht.owns hrow (λg hg=>hS g (hF g hg))) h6 hF hFs hdis (λi x hx=>ih i x hx (λb hb=>hS b (hFs i b (by
   rcases Nat.lt_or_ge i v.list.length with h | h
   ·exact h
   ·rw[List.getElem?_eq_none h]at hx;cases hx) hb).1))
theorem VOwn.mono (h:VOwn w F v u) (hF:∀b,F b→F' b):VOwn w F' v u:=by
 cases h with
 | mk _ _ s cs Fs hrow h6 hF0 hFs hdis hr=>exact .mk v F' s cs Fs hrow h6 (λg hg=>hF g (hF0 g hg)) (λi b hi hb=>⟨hF b (hFs i b hi hb).1,(hFs i b hi hb).2⟩) hdis hr
theorem LOwn.turn (h:LOwn w F l s) {S:Nat→Prop} (ht:Turn S w w') (hS:∀b,F b→¬S b):LOwn w' F l s:=by
 obtain⟨cs,Fs,hrow,h6,hF,hFs,hdis,hr⟩:=h
 refine⟨cs,Fs,ht.owns hrow (λg hg=>hS g (hF g hg)),h6,hF,hFs,hdis,λi x hx=>(hr i x hx).turn ht (λb hb=>hS b (hFs i b (by
     rcases Nat.lt_or_ge i l.length with h | h
     ·exact h
     ·rw[List.getElem?_eq_none h]at hx;cases hx) hb).1)⟩
theorem LOwn.mono (h:LOwn w F l s) (hF:∀b,F b→F' b):LOwn w F' l s:=by
 obtain⟨cs,Fs,hrow,h6,hF0,hFs,hdis,hr⟩:=h
 exact⟨cs,Fs,hrow,h6,λg hg=>hF g (hF0 g hg),λi b hi hb=>⟨hF b (hFs i b hi hb).1,(hFs i b hi hb).2⟩,hdis,hr⟩
theorem LOwn.nil (w:World) (F:Nat→Prop):LOwn w F [] (.slice none 0 0):=
 ⟨λ_=>#[],λ_ _=>False,World.ownsRow_nil _ _ _ _,(λ_ hi=>absurd hi (Nat.not_lt_zero _)),(λg hg=>by cases hg),(λ_ _ hi=>absurd hi (Nat.not_lt_zero _)),(λ_ _ _ hi=>absurd hi (Nat.not_lt_zero _)),(λi x hx=>by simp at hx)⟩
theorem LOwn.form (h:LOwn w F l s):∃A cap,s = .slice A l.length cap:=by
 obtain⟨cs,Fs,hrow,_⟩:=h
 rcases hrow.2 with⟨rfl,h0⟩ | ⟨g,cp,cur,rfl,_⟩
 ·exact⟨none,0,by rw[h0]⟩
 ·exact⟨_,cp,rfl⟩
theorem own_cap {base e size:Nat} {A:Option Addr} {n cap:Nat} {xs:List Value} (h:w.ownsRow base e size (.slice A n cap) n xs):n≤cap:=by
 rcases h.2 with⟨h0,h1⟩ | ⟨g,cp,cur,h0,_,_,h1,_⟩
 ·injection h0 with _ h2 h3;omega
 ·injection h0 with _ _ h3;omega
theorem rd_row {cs:Nat→Array Value} {A:Option Addr} {cap:Nat} (hrow:w.ownsRow 0 34 6 (.slice A l.length cap) l.length (flatV cs l.length)) (h6:∀i,i<l.length→(cs i).size=6) (hF:∀g,(Value.slice A l.length cap).ownBlock=some g→F g)
    (hr:∀i x,l[i]?=some x→VRd w F x (.agg (cs i))):LRd w F l A l.length:=by
 refine⟨rfl,λhn=>?_⟩
 obtain⟨g,cp,hv,_,_⟩:=hrow.form hn
 injection hv with hv _ hcp
 subst hv
 subst hcp
 refine⟨⟨g,0,none⟩,rfl,hF g rfl,λi x hx=>?_⟩
 have hi:i<l.length:=by
  rcases Nat.lt_or_ge i l.length with h | h
  ·exact h
  ·rw[List.getElem?_eq_none h]at hx;cases hx
 refine⟨cs i,h6 i hi,λj hj=>?_,hr i x hx⟩
 have h1:=hrow.cellAt (i*6+j) (by omega)
 rw[flatV_at h6 hi hj]at h1
 rw[←h1]
 unfold Addr.add
 split<;>simp_all
theorem VOwn.rd (h:VOwn w F v u):VRd w F v u:=by
 induction h with
 | mk v F s cs Fs hrow h6 hF hFs hdis hr ih=>
  obtain⟨A,cap,rfl⟩:∃A cap,s = .slice A v.list.length cap:=by
   rcases hrow.2 with⟨rfl,h0⟩ | ⟨g,cp,cur,rfl,_⟩
   ·exact⟨none,0,by rw[h0]⟩
   ·exact⟨_,cp,rfl⟩
  exact .of_list (own_cap hrow) (rd_row hrow h6 hF (λi x hx=>(ih i x hx).mono (λb hb=>(hFs i b (by
   rcases Nat.lt_or_ge i v.list.length with h | h
   ·exact h
   ·rw[List.getElem?_eq_none h]at hx;cases hx) hb).1)))
theorem LOwn.rd (h:LOwn w F l s):∃A cap,s = .slice A l.length cap∧l.length≤cap∧LRd w F l A l.length:=by
 obtain⟨A,cap,rfl⟩:=h.form
 obtain⟨cs,Fs,hrow,h6,hF,hFs,_,hr⟩:=h
 exact⟨A,cap,rfl,own_cap hrow,rd_row hrow h6 hF (λi x hx=>(hr i x hx).rd.mono (λb hb=>(hFs i b (by
     rcases Nat.lt_or_ge i l.length with h | h
     ·exact h
     ·rw[List.getElem?_eq_none h]at hx;cases hx) hb).1))⟩
theorem own_snoc {w5 w6:World} {F G:Nat→Prop} {l:List Val} {x:Val} {s sx:Value} {g4 c4:Nat} {cs:Nat→Array Value} {Fs:Nat→Nat→Prop}
    (h6:∀i,i<l.length→(cs i).size=6) (hF:∀g,s.ownBlock=some g→F g) (hFs:∀i b,i<l.length→Fs i b→F b∧s.ownBlock≠some b) (hdis:∀i j b,i<l.length→j<l.length→i≠j→Fs i b→¬Fs j b)
    (hr:∀i y,l[i]?=some y→VOwn w5 (Fs i) y (.agg (cs i))) (hx:LOwn w5 G x.list sx) (hFG:∀b,F b→¬G b) (hFl:∀b,F b→b<w5.heap.size) (hGl:∀b,G b→b<w5.heap.size)
    (ho:w6.ownsRow 0 34 6 (.slice (some ⟨g4,0,none⟩) (l.length+1) c4) (l.length+1) (flatV cs l.length++(cellsV x sx).toList)) (hg:w5.grownBy w6 s.ownBlock) (hl:s.ownBlock=some g4∨w5.heap.size≤g4) :
    LOwn w6 (λb=>F b∨G b∨b=g4) (l++[x]) (.slice (some ⟨g4,0,none⟩) (l.length+1) c4):=by
 have hlen:(l++[x]).length=l.length+1:=by simp
 have hcs:∀i,i<l.length→(λi=>if i<l.length then cs i else cellsV x sx) i=cs i:=λi hi=>if_pos hi
 have hFn:∀i b,i<l.length→Fs i b→b≠g4:=λi b hi hb e=>by
  obtain⟨h1,h2⟩:=hFs i b hi hb
  rcases hl with h | h
  ·exact h2 (by rw[h,e])
  ·have:=hFl b h1;omega
 have hGn:∀b,G b→b≠g4:=λb hb e=>by
  rcases hl with h | h
  ·exact hFG b (by rw[e];exact hF g4 h) hb
  ·have:=hGl b hb;omega
 refine⟨λi=>if i<l.length then cs i else cellsV x sx,λi=>if i<l.length then Fs i else G,?_,λi hi=>?_,λg hg'=>?_,λi b hi hb=>?_,λi j b hi hj hne hb hb'=>?_,λi y hy=>?_⟩
 ·rw[hlen,flatV_succ,flatV_congr hcs,if_neg (Nat.lt_irrefl _)]
  exact ho
 ·by_cases h:i<l.length
  ·simp only[if_pos h];exact h6 i h
  ·simp only[if_neg h];rfl
 ·injection hg' with hg'
  exact .inr (.inr hg'.symm)
 ·by_cases h:i<l.length
  ·simp only[if_pos h]at hb
   exact⟨.inl (hFs i b h hb).1,λe=>by injection e with e;exact hFn i b h hb e.symm⟩
  ·simp only[if_neg h]at hb
   exact⟨.inr (.inl hb),λe=>by injection e with e;exact hGn b hb e.symm⟩
 ·by_cases h:i<l.length
  ·simp only[if_pos h]at hb
   by_cases h':j<l.length
   ·simp only[if_pos h']at hb'
    exact hdis i j b h h' hne hb hb'
   ·simp only[if_neg h']at hb'
    exact hFG b (hFs i b h hb).1 hb'
  ·simp only[if_neg h]at hb
   by_cases h':j<l.length
   ·simp only[if_pos h']at hb'
    exact hFG b (hFs j b h' hb').1 hb
   ·omega
 ·by_cases h:i<l.length
  ·simp only[if_pos h]
   rw[List.getElem?_append_left h]at hy
   exact (hr i y hy).turn (Turn.of_grown hg) (λb hb e=>(hFs i b h hb).2 e.symm)
  ·simp only[if_neg h]
   have hi:i=l.length:=by
    rcases Nat.lt_or_ge i (l++[x]).length with h1 | h1
    ·omega
    ·rw[List.getElem?_eq_none h1]at hy;cases hy
   subst hi
   simp at hy
   subst hy
   exact (VOwn.of_list hx).turn (Turn.of_grown hg) (λb hb e=>hFG b (hF b e.symm) hb)
end
structure PairD where
 key:ByteArray
 v:Val
structure NodeD where
 id:Int
 labels:List ByteArray
 props:List PairD
structure EdgeD where
 id:Int
 src:Int
 dst:Int
 type:ByteArray
 props:List PairD
structure GraphD where
 nodes:List NodeD
 edges:List EdgeD
def cellsP (p:PairD) (s:Value):Array Value:=#[.string p.key,.int .i64 p.v.kind,.bool p.v.truth,.int .i64 p.v.num,.string p.v.text,.string p.v.extra,s]
def PaR:Lies PairD:=λw F p c=>∃s,c=cellsP p s∧VRd w F p.v (.agg (cellsV p.v s))
theorem PaR.good:PaR.Good:=⟨fun⟨s,e,h⟩ hk=>⟨s,e,h.keep hk⟩,fun⟨s,e,h⟩ hF=>⟨s,e,h.mono hF⟩⟩
def NoR:Lies NodeD:=λw F n c=>∃L P,c=#[.int .i64 n.id,L,P]∧SlR 1 TxR w F n.labels L∧SlR 7 PaR w F n.props P
theorem NoR.good:NoR.Good:=⟨fun⟨L,P,e,h1,h2⟩ hk=>⟨L,P,e,h1.keep TxR.good hk,h2.keep PaR.good hk⟩,fun⟨L,P,e,h1,h2⟩ hF=>⟨L,P,e,h1.mono TxR.good hF,h2.mono PaR.good hF⟩⟩
def EdR:Lies EdgeD:=λw F e c=>∃P,c=#[.int .i64 e.id,.int .i64 e.src,.int .i64 e.dst,.string e.type,P]∧SlR 7 PaR w F e.props P
theorem EdR.good:EdR.Good:=⟨fun⟨P,e,h⟩ hk=>⟨P,e,h.keep PaR.good hk⟩,fun⟨P,e,h⟩ hF=>⟨P,e,h.mono PaR.good hF⟩⟩
def GrR (w:World) (F:Nat→Prop) (g:GraphD) (u:Value):Prop:=∃N E,u = .agg #[N,E]∧SlR 3 NoR w F g.nodes N∧SlR 5 EdR w F g.edges E
section
variable {w w':World} {F F':Nat→Prop} {g:GraphD} {u:Value}
theorem GrR.keep (h:GrR w F g u) (hk:∀p:Addr,F p.block→w'.cell? p=w.cell? p):GrR w' F g u:=by
 obtain⟨N,E,e,h1,h2⟩:=h
 exact⟨N,E,e,h1.keep NoR.good hk,h2.keep EdR.good hk⟩
theorem GrR.mono (h:GrR w F g u) (hF:∀g,F g→F' g):GrR w F' g u:=by
 obtain⟨N,E,e,h1,h2⟩:=h
 exact⟨N,E,e,h1.mono NoR.good hF,h2.mono EdR.good hF⟩
theorem GrR.under {B:Nat} (h:GrR w F g u) (hb:Below B w w') (hF:∀g,F g→g<B):GrR w' F g u:=h.keep λ_ hp=>hb.cell (hF _ hp)
end
end Go.Proofs.YtijciakkfpjjbaaGreatDoor
namespace Go.Proofs.YtijciakkfpjjbaaGreatDoor
open Go Go.RowKit Go.Maps
open Go.Lib (hid cell_of_heap)
theorem below_turnP {w0 w w':World} {S:Nat→Prop} (hb:Below w0.heap.size w0 w) (ht:Turn S w w') (hS:∀b,S b→w0.heap.size≤b):Below w0.heap.size w0 w':=
 hb.trans ⟨ht.os,ht.tape,ht.output,ht.size,λk hk=>ht.block k (Nat.lt_of_lt_of_le hk hb.size) (λh=>by have:=hS k h;omega)⟩
structure PlainR {α : Type} (sz:Nat) (R:α → Array Value→Prop):Prop where
 size:∀{x:α} {c:Array Value},R x c→c.size=sz
 one:∀{x:α} {c:Array Value},R x c→∀u∈c.toList,u.oneCell'=true
abbrev ofP {α : Type} (R:α → Array Value→Prop):Lies α:=λ_ _ x c=>R x c
theorem ofP.good {α : Type} (R:α → Array Value→Prop):(ofP R).Good:=⟨λh _=>h,λh _=>h⟩
def POwn {α : Type} (E:TypeId) (sz:Nat) (R:α → Array Value→Prop) (w:World) (l:List α) (v:Value):Prop:=
 ∃cs:Nat→Array Value,w.ownsRow 0 E sz v l.length (flatC cs l.length)∧∀i x,l[i]?=some x→R x (cs i)
section
variable {α : Type} {E:TypeId} {sz:Nat} {R:α → Array Value→Prop} {w w':World} {F:Nat→Prop} {l l2:List α} {v:Value} {A:Option Addr} {n:Nat}
theorem POwn.nil (E:TypeId) (sz:Nat) (R:α → Array Value→Prop) (w:World):POwn E sz R w [] (.slice none 0 0):=⟨λ_=>#[],World.ownsRow_nil _ _ _ _,λi x hx=>by simp at hx⟩
theorem POwn.turn (h:POwn E sz R w l v) {S:Nat→Prop} (ht:Turn S w w') (hS:∀b,v.ownBlock=some b→¬S b):POwn E sz R w' l v:=by
 obtain⟨cs,hrow,hr⟩:=h
 exact⟨cs,ht.owns hrow hS,hr⟩
theorem POwn.lt (h:POwn E sz R w l v) {b:Nat} (hb:v.ownBlock=some b):b<w.heap.size:=by
 obtain⟨cs,hrow,hr⟩:=h
 obtain⟨cur,hc⟩:=own_type hrow hb
 exact blk_lt hc
theorem POwn.on (h:POwn E sz R w l v) (hb:Below w.heap.size w w'):POwn E sz R w' l v:=
 h.turn (Turn.of_below hb) λb hb2 e=>by have e:w.heap.size≤b:=e;have:=h.lt hb2;omega
theorem POwn.form (h:POwn E sz R w l v):∃A cap,v = .slice A l.length cap∧l.length≤cap∧(A=none→cap=0):=by
 obtain⟨cs,hrow,_⟩:=h
 rcases hrow.2 with⟨h0,h1⟩ | ⟨g,cp,cur,h0,_,_,h1,_⟩
 ·exact⟨none,0,by rw[h0,h1],by omega,λ_=>rfl⟩
 ·exact⟨_,cp,h0,h1,λh=>by cases h⟩
theorem POwn.rd {cap:Nat} (hP:PlainR sz R) (h:POwn E sz R w l (.slice A n cap)) (hF:∀b,(Value.slice A n cap).ownBlock=some b→F b) (hn:l.length=n):SRd sz (ofP R) w F l A n:=by
 obtain⟨cs,hrow,hr⟩:=h
 subst hn
 refine⟨rfl,λhn=>?_⟩
 obtain⟨g,cp,hv,_,_⟩:=hrow.form hn
 injection hv with hv _ hcp
 subst hv
 subst hcp
 have h6:∀i,i<l.length→(cs i).size=sz:=λi hi=>hP.size (hr i _ (List.getElem?_eq_getElem hi))
 refine⟨⟨g,0,none⟩,rfl,hF g rfl,λi x hx=>?_⟩
 have hi:=idx_lt hx
 refine⟨cs i,h6 i hi,λj hj=>?_,hr i x hx⟩
 have hij:i*sz+j<l.length*sz:=by
  have h1:(i+1)*sz≤l.length*sz:=Nat.mul_le_mul_right sz (by omega)
  rw[Nat.succ_mul]at h1
  omega
 have h1:=hrow.cellAt (i*sz+j) hij
 rw[flatC_at h6 hi hj]at h1
 rw[Addr.add_mid,Nat.zero_add]
 exact h1
theorem SRd.part (h:SRd sz (ofP R) w F l A n) {lo hi:Nat} (h1:lo≤hi) (h2:hi≤n):SRd sz (ofP R) w F ((l.drop lo).take (hi-lo)) (A.map (·.add (lo*sz))) (hi-lo):=by
 refine⟨by rw[List.length_take,List.length_drop,←h.1];omega,λhn=>?_⟩
 obtain⟨ad,e,hF,hc⟩:=h.2 (by omega)
 refine⟨ad.add (lo*sz),by rw[e];rfl,by rw[block_of_add];exact hF,λi x hx=>?_⟩
 have hi':=(List.getElem?_eq_some_iff.1 hx).1
 rw[List.length_take]at hi'
 rw[List.getElem?_take_of_lt (by omega),List.getElem?_drop]at hx
 obtain⟨c,h3,h4,h5⟩:=hc _ _ hx
 refine⟨c,h3,λj hj=>?_,h5⟩
 rw[add_of_add,←h4 j hj,Nat.add_mul,Nat.add_assoc]
theorem SRd.cells {ad:Addr} (hP:PlainR sz R) (h:SRd sz (ofP R) w F l (some ad) n):∃cs:Nat→Array Value,(∀i x,l[i]?=some x→R x (cs i))∧∀j u,(flatC cs n)[j]?=some u→w.cell? (ad.add j)=some u:=by
 classical
 have hx:∀i,∃c:Array Value,∀x,l[i]?=some x→R x c∧∀j,j<sz→w.cell? (ad.add (i*sz+j))=c[j]?:=λi=>by
  cases hi:l[i]? with
  | none=>exact⟨#[],λx h=>by cases h⟩
  | some x=>
   obtain⟨ad',c,e,_,h1,h2,h3⟩:=h.at_ hi
   injection e with e
   subst e
   exact⟨c,λy hy=>by injection hy with hy;subst hy;exact⟨h3,h2⟩⟩
 refine⟨λi=>(hx i).choose,λi x hi=>((hx i).choose_spec x hi).1,λj u hj=>?_⟩
 have h6:∀i,i<n→((hx i).choose).size=sz:=λi hi=>hP.size ((hx i).choose_spec _ (List.getElem?_eq_getElem (by rw[←h.1];exact hi))).1
 have hl:=(List.getElem?_eq_some_iff.1 hj).1
 rw[flatC_length h6]at hl
 rcases Nat.eq_zero_or_pos sz with h0 | h0
 ·subst h0
  omega
 ·have hi:j / sz<n:=(Nat.div_lt_iff_lt_mul h0).2 hl
  have hm:j % sz<sz:=Nat.mod_lt _ h0
  have e:j=(j / sz)*sz+j % sz:=by rw[Nat.mul_comm];exact (Nat.div_add_mod j sz).symm
  rw[e,flatC_at h6 hi hm]at hj
  rw[e,((hx _).choose_spec _ (List.getElem?_eq_getElem (by rw[←h.1];exact hi))).2 _ hm]
  exact hj
theorem flatC_app (cs ds:Nat→Array Value) (n m:Nat):flatC cs n++flatC ds m=flatC (λi=>if i<n then cs i else ds (i-n)) (n+m):=by
 induction m with
 | zero=>
  rw[Nat.add_zero,show flatC ds 0=[] from rfl,List.append_nil]
  exact flatC_congr λi hi=>(if_pos hi).symm
 | succ m ih=>
  rw[flatC_succ,←List.append_assoc,ih,←Nat.add_assoc,flatC_succ]
  congr 2
  rw[if_neg (by omega),Nat.add_sub_cancel_left]
end
theorem run_app_P {α : Type} {P:Program} {E:TypeId} {sz bytes:Nat} {R:α → Array Value→Prop} (hP:PlainR sz R) (t ty:TypeId) (i:TypeInfo) (z:Value) (ht:P.underlying t=some (.slice E)) (hi:P.info? E=some i) (hz:i.zero=some z)
    (hsize:i.size=sz) (hby:i.bytes=bytes) (hzs:z.cells.size=sz) (hsz:0<sz) {w:World} {F:Nat→Prop} {l l2:List α} {v:Value} {A:Option Addr} {n m c:Nat} (h:POwn E sz R w l v) (hn:l.length=n) (h2:SRd sz (ofP R) w F l2 A m) (hc:A=none→c=0)
    (h63:n+m≤1000000000) (hbb:bytes≤100000) :
    ∃v' w',(Builtin.append_ #[t,t] ty #[v,.slice A m c]).run P w = .ok v' w'∧POwn E sz R w' (l++l2) v'∧w.grownBy w' v.ownBlock∧(v'.ownBlock=v.ownBlock∨v'.ownBlock=some w.heap.size):=by
 subst hn
 obtain⟨cs,hrow,hr⟩:=h
 have hm:m=l2.length:=h2.1
 cases A with
 | none=>
  have h0:m=0:=by
   rcases Nat.eq_zero_or_pos m with h | h
   ·exact h
   ·obtain⟨_,e,_⟩:=h2.2 h;cases e
  have e2:l2=[]:=List.eq_nil_of_length_eq_zero (by omega)
  subst e2
  rw[hc rfl,h0]
  refine⟨v,w,run_append_owned_none (P:=P) (w:=w) 0 t ty E i sz ht hi v _ _ hrow,?_,⟨rfl,rfl,rfl,Nat.le_refl _,λ_ _ _=>rfl⟩,.inl rfl⟩
  rw[List.append_nil]
  exact⟨cs,hrow,hr⟩
 | some ad=>
  obtain⟨ds,hd,hcell⟩:=h2.cells hP
  have h6:∀i,i<m→(ds i).size=sz:=λi hi=>hP.size (hd i _ (List.getElem?_eq_getElem (by omega)))
  have hone:∀u∈flatC ds m,u.oneCell'=true:=λu hu=>by
   unfold flatC at hu
   obtain⟨i,hi,hu⟩:=List.mem_flatMap.1 hu
   rw[List.mem_range]at hi
   exact hP.one (hd i _ (List.getElem?_eq_getElem (by omega))) u hu
  have hbytes:(l.length+m)*bytes≤140737488355328:=Nat.le_trans (Nat.mul_le_mul h63 hbb) (by decide)
  obtain⟨v',w',h1,h3,h4,_,h5⟩:=run_append_own_at (P:=P) w 0 t ty E i z sz bytes ht hi hz hsize hby hzs hsz v l.length _ hrow ad m c (flatC ds m) (flatC_length h6) hcell hone (by unfold maxLen;omega) hbytes (Nat.zero_le _)
  refine⟨v',w',h1,⟨λi=>if i<l.length then cs i else ds (i-l.length),?_,λi x hx=>?_⟩,h4,h5⟩
  ·rw[List.length_append,←hm,←flatC_app]
   exact h3
  ·dsimp only
   split
   ·rename_i hlt
    rw[List.getElem?_append_left hlt]at hx
    exact hr i x hx
   ·rename_i hge
    rw[List.getElem?_append_right (by omega)]at hx
    exact hd _ x hx
theorem wp_app_P {α : Type} {P:Program} {E:TypeId} {sz bytes:Nat} {R:α → Array Value→Prop} (hP:PlainR sz R) {op:Oper} {a:Act} {K:Act→World→Prop} {Q:Exit→Act→World→Prop} (s x:Operand) (t:TypeId) (ho:op.op = .call { callee:=.builtin .append,args:=#[s,x],argTypes:=#[t,t] })
    (i:TypeInfo) (z:Value) (ht:P.underlying t=some (.slice E)) (hi:P.info? E=some i) (hz:i.zero=some z)
    (hsize:i.size=sz) (hby:i.bytes=bytes) (hzs:z.cells.size=sz) (hsz:0<sz) {w:World} {F:Nat→Prop} {l l2:List α} {v:Value} {A:Option Addr} {n m c:Nat} (hs:a.eval s=v) (h:POwn E sz R w l v) (hn:l.length=n) (hx:a.eval x = .slice A m c) (h2:SRd sz (ofP R) w F l2 A m) (hc:A=none→c=0)
    (h63:n+m≤1000000000) (hbb:bytes≤100000)
    (hk:∀v' w',POwn E sz R w' (l++l2) v'→w.grownBy w' v.ownBlock→(v'.ownBlock=v.ownBlock∨v'.ownBlock=some w.heap.size)→K (a.put op.dst v') w'):op.wp P a w K Q:=by
 obtain⟨v',w',h1,h3,h4,h5⟩:=run_app_P (P:=P) hP t op.type i z ht hi hz hsize hby hzs hsz h hn h2 hc h63 hbb
 unfold Oper.wp execOp
 simp only[ho,resolve,invoke,builtin,Sem.run_bind,Sem.run_pure,Result.andThen_ok,List.map_toArray,List.map_cons,List.map_nil,hs,hx,h1]
 exact hk v' w' h3 h4 h5
theorem wpList_app_P {α : Type} {P:Program} {E:TypeId} {sz bytes:Nat} {R:α → Array Value→Prop} (hP:PlainR sz R) {ops:Array Oper} {rest:List Oper} {op:Oper} {a:Act} {Q:Exit→Act→World→Prop} (hgd:op.guard=none) (s x:Operand) (t:TypeId) (ho:op.op = .call { callee:=.builtin .append,args:=#[s,x],argTypes:=#[t,t] })
    (i:TypeInfo) (z:Value) (ht:P.underlying t=some (.slice E)) (hi:P.info? E=some i) (hz:i.zero=some z)
    (hsize:i.size=sz) (hby:i.bytes=bytes) (hzs:z.cells.size=sz) (hsz:0<sz) {w:World} {F:Nat→Prop} {l l2:List α} {v:Value} {A:Option Addr} {n m c:Nat} (hs:a.eval s=v) (h:POwn E sz R w l v) (hn:l.length=n) (hx:a.eval x = .slice A m c) (h2:SRd sz (ofP R) w F l2 A m) (hc:A=none→c=0)
    (h63:n+m≤1000000000) (hbb:bytes≤100000)
    (hk:∀v' w',POwn E sz R w' (l++l2) v'→w.grownBy w' v.ownBlock→(v'.ownBlock=v.ownBlock∨v'.ownBlock=some w.heap.size)→wpList P ops Q rest (a.put op.dst v') w'):wpList P ops Q (op::rest) a w:=
 wpList_plain hgd λ_ hK=>wp_app_P hP s x t ho i z ht hi hz hsize hby hzs hsz hs h hn hx h2 hc h63 hbb λv' w' h1 h3 h4=>hK _ _ (hk v' w' h1 h3 h4)
theorem one_rd {α : Type} {sz:Nat} {R:α → Array Value→Prop} (hP:PlainR sz R) {x:α} {c:Array Value} (h:R x c) (w:World) (T:TypeId):SRd sz (ofP R) (w.alloc (.cells c T)) (λb=>b=w.heap.size) [x] (some ⟨w.heap.size,0,none⟩) 1:=
 ⟨rfl,λ_=>⟨_,rfl,rfl,λi y hy=>by
  have hi:i=0:=by
   have:=(List.getElem?_eq_some_iff.1 hy).1
   simp at this
   omega
  subst hi
  simp at hy
  subst hy
  refine⟨c,hP.size h,λj hj=>?_,h⟩
  rw[Addr.add_mid,Nat.zero_mul,Nat.zero_add,Nat.zero_add]
  exact cell_of_row _ _ _ _ _ _ (heap_alloc_new w _)⟩⟩
section
variable {P:Program} {T E:TypeId} {sz:Nat}
theorem slice_to (hT:P.underlying T=some (.slice (P.elem T))) (hs:∀W,(sizeOf (P.elem T)).run P W = .ok sz W) {A:Option Addr} {n c k:Nat} (hk:k≤n) (hn:n≤c) (hA:A=none→c=0) :
    ∃A' c',(∀W,(Instr.sliceAt T (.slice A n c) none (some (.int .i64 (k:Nat))) none).run P W = .ok (.slice A' k c') W)∧(A'=none→c'=0)∧(0<k→A'=A.map (·.add (0*sz))):=by
 refine⟨if c=0 then A else A.map (·.add (0*sz)),c-0,λW=>?_,λh=>?_,λh=>?_⟩
 ·rw[run_sliceAt_slice (h:=hT),run_slice_h (ht:=hT) (h0:=by omega) (h2:=by omega),hs W]
  rfl
 ·by_cases h0:c=0
  ·omega
  ·rw[if_neg h0,Option.map_eq_none_iff]at h
   have:=hA h
   omega
 ·rw[if_neg (by omega)]
theorem slice_from (hT:P.underlying T=some (.slice (P.elem T))) (hs:∀W,(sizeOf (P.elem T)).run P W = .ok sz W) {A:Option Addr} {n c k:Nat} (hk:k≤n) (hn:n≤c) (hA:A=none→c=0) :
    ∃A' c',(∀W,(Instr.sliceAt T (.slice A n c) (some (.int .i64 (k:Nat))) none none).run P W = .ok (.slice A' (n-k) c') W)∧(A'=none→c'=0)∧(k<n→A'=A.map (·.add (k*sz))):=by
 refine⟨if c=k then A else A.map (·.add (k*sz)),c-k,λW=>?_,λh=>?_,λh=>?_⟩
 ·rw[run_sliceAt_slice (h:=hT),run_slice_l (ht:=hT) (h0:=by omega) (h1:=by omega),hs W]
  rfl
 ·by_cases h0:c=k
  ·omega
  ·rw[if_neg h0,Option.map_eq_none_iff]at h
   have:=hA h
   omega
 ·rw[if_neg (by omega)]
end
section
variable {α : Type} {E:TypeId} {sz:Nat} {R:α → Array Value→Prop} {w wx w':World} {S v v':Value} {l nx:List α}
theorem SRd.at_len {F:Nat→Prop} {A A':Option Addr} {n:Nat} (h:SRd sz (ofP R) w F l A n) (hA:0<n→A'=A):SRd sz (ofP R) w F l A' n:=⟨h.1,λhn=>by
 obtain⟨ad,e,h1,h2⟩:=h.2 hn
 exact⟨ad,by rw[hA hn,e],h1,h2⟩⟩
theorem SRd.part_to {F:Nat→Prop} {A A':Option Addr} {n k:Nat} (h:SRd sz (ofP R) w F l A n) (hk:k≤n) (hA:0<k→A'=A.map (·.add (0*sz))):SRd sz (ofP R) w F (l.take k) A' k:=by
 have:=(h.part (lo:=0) (hi:=k) (Nat.zero_le _) hk).at_len (A':=A') (λh=>hA (by omega))
 rwa [List.drop_zero,Nat.sub_zero]at this
theorem SRd.part_from {F:Nat→Prop} {A A':Option Addr} {n k:Nat} (h:SRd sz (ofP R) w F l A n) (hk:k≤n) (hA:k<n→A'=A.map (·.add (k*sz))):SRd sz (ofP R) w F (l.drop k) A' (n-k):=by
 have:=(h.part (lo:=k) (hi:=n) hk (Nat.le_refl _)).at_len (A':=A') (λh=>hA (by omega))
 rwa [List.take_of_length_le (by rw[List.length_drop,h.1];exact Nat.le_refl _)]at this
theorem POwn.cell {E:TypeId} (hP:PlainR sz R) {A:Option Addr} {n cap:Nat} (h:POwn E sz R w l (.slice A n cap)) (hn:l.length=n) {k:Nat} {x:α} (hx:l[k]?=some x) :
    ∃ad c,A=some ad∧ad.block<w.heap.size∧R x c∧∀j,j<c.size→w.cell? ((ad.add (k*sz)).add j)=c[j]?:=by
 obtain⟨ad,c,e,hF,hs,hc,hr⟩:=(h.rd hP (F:=λb=>b<w.heap.size) (λb hb=>h.lt hb) hn).at_ hx
 exact⟨ad,c,e,hF,hr,λj hj=>by rw[add_of_add];exact hc j (by omega)⟩
structure LdP (E:TypeId) (sz:Nat) (R:α → Array Value→Prop) (w:World) (l:List α) (S:Value) (wx:World):Prop where
 hb:Below w.heap.size w wx
 own:POwn E sz R wx l S
 ow:∀b,S.ownBlock=some b→w.heap.size≤b
theorem LdP.on (h:LdP E sz R w l S wx) (hb:Below wx.heap.size wx w'):LdP E sz R w l S w':=⟨h.hb.trans (hb.mono h.hb.size),h.own.on hb,h.ow⟩
theorem LdP.drew (h:LdP E sz R w l S wx):LdP E sz R w l S wx.drew:=h.on (Below.refl _ _).drew
theorem LdP.start (w:World):LdP E sz R w [] (.slice none 0 0) w:=⟨Below.refl _ _,POwn.nil ..,λb h=>by cases h⟩
theorem LdP.startOn {w0:World} (hb:Below w0.heap.size w0 w):LdP E sz R w0 [] (.slice none 0 0) w:=⟨hb,POwn.nil ..,λb h=>by cases h⟩
structure InP (E:TypeId) (sz:Nat) (R:α → Array Value→Prop) (w:World) (l:List α) (S:Value) (nx:List α) (v:Value) (wx:World):Prop where
 l:LdP E sz R w l S wx
 n:LdP E sz R w nx v wx
 ne:∀b,v.ownBlock=some b→S.ownBlock≠some b
theorem InP.start (h:LdP E sz R w l S wx):InP E sz R w l S [] (.slice none 0 0) wx:=⟨h,⟨h.hb,POwn.nil ..,λb h=>by cases h⟩,λb h=>by cases h⟩
theorem InP.on (h:InP E sz R w l S nx v wx) (hb:Below wx.heap.size wx w'):InP E sz R w l S nx v w':=⟨h.l.on hb,h.n.on hb,h.ne⟩
theorem InP.app {l2:List α} (h:InP E sz R w l S nx v wx) (ho:POwn E sz R w' (nx++l2) v') (hg:wx.grownBy w' v.ownBlock) (hv:v'.ownBlock=v.ownBlock∨v'.ownBlock=some wx.heap.size):InP E sz R w l S (nx++l2) v' w':=by
 have ht:=Turn.of_grown hg
 have hb:Below w.heap.size w w':=below_turnP h.l.hb ht (λb hb=>h.n.ow b hb.symm)
 refine⟨⟨hb,h.l.own.turn ht (λb h1 h2=>h.ne b h2.symm h1),h.l.ow⟩,⟨hb,ho,λb hb=>?_⟩,λb hb=>?_⟩
 ·rcases hv with e | e
  ·rw[e]at hb;exact h.n.ow b hb
  ·rw[e]at hb
   injection hb with hb
   rw[←hb]
   exact h.l.hb.size
 ·rcases hv with e | e
  ·rw[e]at hb;exact h.ne b hb
  ·rw[e]at hb
   injection hb with hb
   intro h2
   have:=h.l.own.lt h2
   omega
theorem InP.done (h:InP E sz R w l S nx v wx):LdP E sz R w nx v wx:=h.n
end
section
variable {α : Type} {o:α → α → Int} {l:List α} {y:α} {k:Nat}
theorem spot_down {x:α} (hk:l[k]?=some x) (h:0<o x y):spotR o y l (k+1)=spotR o y l k:=by
 unfold spotR
 rw[hk]
 simp only
 rw[if_pos h]
 cases k<;>rfl
theorem spot_here {x:α} (hk:l[k]?=some x) (h:¬0<o x y):spotR o y l (k+1)=k+1:=by
 unfold spotR
 rw[hk]
 simp only
 rw[if_neg h]
theorem spot_zero:spotR o y l 0=0:=by unfold spotR;rfl
theorem ins_none (h:spotR o y l l.length=0):insR o l y=l.take 0++([y]++l.drop 0):=by
 unfold insR
 simp only[h]
 rw[if_neg (by rintro⟨h,_⟩;omega)]
 rfl
theorem ins_here {x:α} (hk:l[k]?=some x) (h:spotR o y l l.length=k+1) (h0:o x y≠0):insR o l y=l.take (k+1)++([y]++l.drop (k+1)):=by
 unfold insR
 simp only[h,Nat.add_sub_cancel]
 rw[if_neg (by rintro⟨_,x',hx,h1⟩;rw[hk]at hx;injection hx with hx;subst hx;exact h0 h1)]
 rfl
theorem ins_same {x:α} (hk:l[k]?=some x) (h:spotR o y l l.length=k+1) (h0:o x y=0):insR o l y=l:=by
 unfold insR
 simp only[h,Nat.add_sub_cancel]
 rw[if_pos ⟨by omega,x,hk,h0⟩]
end
end Go.Proofs.YtijciakkfpjjbaaGreatDoor
