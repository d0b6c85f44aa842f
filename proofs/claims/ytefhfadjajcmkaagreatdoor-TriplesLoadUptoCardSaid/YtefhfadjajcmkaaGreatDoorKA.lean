/- Triples: what is loaded from a list; the closures of Load; ContainsFunc. -/
import Derived.Test.YtefhfadjajcmkaaGreatDoorK8
import Derived.Test.YtefhfadjajcmkaaGreatDoorK9
set_option linter.unusedVariables false
set_option linter.unusedSimpArgs false
set_option maxRecDepth 100000
set_option maxHeartbeats 8000000
namespace Go.Proofs.YtefhfadjajcmkaaGreatDoor
open Go Go.RowKit
open Go.Lib (hid cell_of_heap)
theorem intAt {w:World} {F:Nat→Prop} {l:List Int} {A:Option Addr} {n:Nat} (h:SRd 1 IxR w F l A n) {i:Nat} {x:Int} (hx:l[i]?=some x) :
    ∃ad,A=some ad∧F ad.block∧w.cell? (ad.add i)=some (.int .i64 x):=by
 obtain⟨ad,c,e,hF,_,hc,hcx⟩:=h.at_ hx
 have c0:=hc 0 (by omega)
 rw[hcx]at c0
 exact⟨ad,e,hF,by simpa using c0⟩
def inI (l:List Int) (x:Int):Bool:=decide (x∈l)
def ToldS (b:Bool) (w:World) (e:Ending) (w':World):Prop:=e = .returned (.bool b)∧w'=w
def IdxB (b:Bool) (w:World) (e:Ending) (w':World):Prop:=∃r:Int,e = .returned (.int .i64 r)∧decide (0≤r)=b∧w'=w
theorem idxI_any (l:List Int) (x:Int) (F:Nat→Prop) (A:Option Addr) (n c:Nat) (w:World) (h:SRd 1 IxR w F l A n) (hn:n≤1000000000) :
    Calls Tryz.prog 118 #[.slice A n c,.int .i64 x] w (IdxB (inI l x) w):=by
 have H1:=hid h
 have L1:=hid h.1
 clear h
 obtain⟨r,HR⟩:=name_itV (inI l x)
 rw[HR.out]
 go_enter Tryz.func118,Tryz.ntmps118
 go_wp2_with fail
 go_loopw [8] (λs5 wx=>∃k:Nat,k≤n∧s5 = .int .i64 (k:Nat)∧Hid (wx=w∧x∉l.take k)) (λs5 _=>n-(intOf s5).toNat)
 case atStart=>exact⟨0,by omega,rfl,hid ⟨rfl,by simp⟩⟩
 case round=>
  obtain⟨k,hk,rfl,hM⟩:=hrel
  by_cases hlt:k<n
  ·obtain⟨y,hy⟩:∃y,l[k]?=some y:=⟨l[k]'(by rw[←L1.out];exact hlt),List.getElem?_eq_getElem _⟩
   have HY:=hid hy
   obtain⟨ad,rfl,_,q0⟩:=intAt (H1.out.keep IxR.good (w':=wr) (λp _=>by rw[hM.out.1])) hy
   clear hy
   have e1:(0:Int)≤k:=by omega
   have e2:(k:Int)<n:=by omega
   have w1:IntKind.i64.wrap ((k:Int)+1)=(k:Int)+1:=IntWalk.i64_in _ (by omega)
   by_cases hxy:x=y
   ·subst hxy
    have t1:(x==x)=true:=beq_self_eq_true _
    have HN:=hid (show r=true from by rw[←HR.out];exact decide_eq_true (List.mem_of_getElem? HY.out))
    go_wp2_with fail
    go_ret
    exact⟨(k:Int),rfl,by rw[HN.out];simp,hM.out.1⟩
   ·have t1:(x==y)=false:=beq_eq_false_iff_ne.2 hxy
    have HXY:=hid hxy
    clear hxy
    go_wp2_with fail
    go_roundw
    case rel=>
     refine⟨k+1,by omega,by go_num,hid ⟨hM.out.1,λhm=>?_⟩⟩
     rw[take_oneMore HY.out]at hm
     rcases List.mem_append.1 hm with hm | hm
     ·exact hM.out.2 hm
     ·exact HXY.out (List.mem_singleton.1 hm)
    case measure=>simp[intOf];omega
  ·have hke:n=k:=by omega
   subst hke
   have HN:=hid (show r=false from by
    rw[←HR.out]
    refine decide_eq_false ?_
    have h:=hM.out.2
    rw[List.take_of_length_le (by rw[←L1.out];exact Nat.le_refl _)]at h
    exact h)
   go_wp2_with fail
   go_ret
   exact⟨-1,rfl,by rw[HN.out];simp,hM.out.1⟩
theorem containsI_any (l:List Int) (x:Int) (F:Nat→Prop) (A:Option Addr) (n c:Nat) (w:World) (h:SRd 1 IxR w F l A n) (hn:n≤1000000000) :
    Calls Tryz.prog 58 #[.slice A n c,.int .i64 x] w (ToldS (inI l x) w):=by
 have HI:=hid (idxI_any l x F A n c w h hn)
 clear h
 obtain⟨r,HR⟩:=name_itV (inI l x)
 rw[HR.out]at HI ⊢
 clear HR
 go_enter Tryz.func58,Tryz.ntmps58
 go_wp2_with fail
 refine HI.out.mono ?_
 rintro e w' ⟨q,rfl,hq,rfl⟩
 go_wp2_with fail
 go_ret
 exact⟨by rw[←hq];rfl,rfl⟩
def TrR:Lies Trip:=λw F t c=>∃ss:Nat→Value,c=cellsT t ss∧∀n,n<3→VRd w F (t.get n) (.agg (cellsV (t.get n) (ss n)))
theorem TrR.good:TrR.Good:=⟨fun⟨ss,e,h⟩ hk=>⟨ss,e,λn hn=>(h n hn).keep hk⟩,fun⟨ss,e,h⟩ hF=>⟨ss,e,λn hn=>(h n hn).mono hF⟩⟩
structure OkV (v:Val):Prop where
 size:sizeV v≤100000000
 n0:-9223372036854775808≤v.num
 n1:v.num≤9223372036854775807
theorem OkV.fit {v:Val} (h:OkV v):FitV v:=⟨h.n0,h.n1,by
 have:=h.size
 cases v with
 | mk k b n t x l=>
 simp only[sizeV]at this
 show t.size≤_
 omega⟩
def OkT (t:Trip):Prop:=OkV t.s∧OkV t.p∧OkV t.o
theorem OkT.get {t:Trip} (h:OkT t) (n:Nat):OkV (t.get n):=by
 unfold Trip.get
 split
 ·exact h.1
 ·split
  ·exact h.2.1
  ·exact h.2.2
theorem mayT_scal {t:Trip} (h:mayT t=true) (hk:OkT t):ScalT t:=by
 unfold mayT at h
 simp only[Bool.and_eq_true,decide_eq_true_eq]at h
 exact⟨⟨h.1,by omega,hk.1.n0,hk.1.n1⟩,⟨h.2.1,by omega,hk.2.1.n0,hk.2.1.n1⟩,⟨h.2.2.1,by omega,hk.2.2.n0,hk.2.2.n1⟩⟩
theorem results_row {P:Program} {fn:Func} {a:Tmp} {T T':TypeId} {w:World} (h:fn.results=#[.cell a T]) {tmps:Array Value} {g:Nat} (ht:tmps.getD a undef = .pointer (some ⟨g,0,none⟩)) {c:Array Value} (hw:w.heap[g]?=some (.cells c T' (0,0)))
    (d:TypeDesc) (hu:P.underlying T=some d) (hd:d.isRow=true) (hi:(P.info? T).map (·.size)=some c.size):(results fn tmps).run P w = .ok (.agg c) w:=by
 have:=run_loadVar_mid (P:=P) w g 0 T c.toList d (range_row hw) hu hd (by rw[Array.length_toList];exact hi)
 rw[Array.toArray_toList]at this
 have ht':tmps[a]?.getD undef = .pointer (some ⟨g,0,none⟩):=by rw[←ht];simp
 simp[results,h,ht',asAddr,this]
def oKinds:List Int:=[8,9,10,4,1,2,3]
theorem seven_rd (w:World):SRd 1 IxR (w.alloc (.cells #[.int .i64 8,.int .i64 9,.int .i64 10,.int .i64 4,.int .i64 1,.int .i64 2,.int .i64 3] 3)) (λb=>b=w.heap.size) oKinds (some ⟨w.heap.size,0,none⟩) 7:=by
 refine⟨rfl,λ_=>⟨_,rfl,rfl,λi x hx=>⟨#[.int .i64 x],rfl,λj hj=>?_,rfl⟩⟩⟩
 have hj0:j=0:=by omega
 subst hj0
 have hi:=(List.getElem?_eq_some_iff.1 hx).1
 have hi7:i<7:=hi
 rcases (show i=0∨i=1∨i=2∨i=3∨i=4∨i=5∨i=6 by omega) with rfl | rfl | rfl | rfl | rfl | rfl | rfl
 all_goals (injection hx with hx;subst hx;exact cell_of_heap (heap_alloc_new w _) _)
theorem mayT_in (s p o:Val):mayT ⟨s,p,o⟩=(mayV s 0&&(mayV p 0&&(mayV o 0&&(decide (p.kind=8)&&(decide (s.kind=8∨s.kind=9)&&inI oKinds o.kind))))):=by
 unfold mayT inI oKinds
 simp only[List.mem_cons,List.not_mem_nil,or_false]
theorem cellsT_lit (k0:Int) (b0:Bool) (n0:Int) (t0 x0:ByteArray) (l0:List Val) (k1:Int) (b1:Bool) (n1:Int) (t1 x1:ByteArray) (l1:List Val) (k2:Int) (b2:Bool) (n2:Int) (t2 x2:ByteArray) (l2:List Val) (ss:Nat→Value):cellsT ⟨.mk k0 b0 n0 t0 x0 l0,.mk k1 b1 n1 t1 x1 l1,.mk k2 b2 n2 t2 x2 l2⟩ ss=#[.int .i64 k0,.bool b0,.int .i64 n0,.string t0,.string x0,ss 0,.int .i64 k1,.bool b1,.int .i64 n1,.string t1,.string x1,ss 1,.int .i64 k2,.bool b2,.int .i64 n2,.string t2,.string x2,ss 2]:=by kernel_rfl
def PartsIs (c:Array Value) (w:World) (e:Ending) (w':World):Prop:=e = .returned (.agg c)∧Below w.heap.size w w'
theorem partsOf_any (t:Trip) (ss:Nat→Value) (hss:∀n,n<3→∃A l c,ss n = .slice A l c) (w:World):Calls Tryz.prog 47 #[.agg (cellsT t ss)] w (PartsIs (cellsT t ss) w):=by
 obtain⟨A0,l0',c0,h0⟩:=hss 0 (by omega)
 obtain⟨A1,l1',c1,h1⟩:=hss 1 (by omega)
 obtain⟨A2,l2',c2,h2⟩:=hss 2 (by omega)
 cases t with
 | mk s p o=>
 cases s with
 | mk k0 b0 n0 t0 x0 l0=>
 cases p with
 | mk k1 b1 n1 t1 x1 l1=>
 cases o with
 | mk k2 b2 n2 t2 x2 l2=>
 rw[cellsT_lit,h0,h1,h2]
 clear h0 h1 h2 hss
 have st_info:=hid (show (Tryz.prog.info? 99).map (·.size)=some 18 from by kernel_rfl)
 have st_one:=hid (show (#[.int .i64 k0,.bool b0,.int .i64 n0,.string t0,.string x0,(.slice A0 l0' c0),.int .i64 k1,.bool b1,.int .i64 n1,.string t1,.string x1,(.slice A1 l1' c1),.int .i64 k2,.bool b2,.int .i64 n2,.string t2,.string x2,(.slice A2 l2' c2)]:Array Value).all (·.oneCell')=true from by kernel_rfl)
 obtain⟨z,Hz⟩:=name_itV w.heap.size
 obtain⟨w1,HW1⟩:=name_itV ((w.alloc (.cells #[.int .i64 k0,.bool b0,.int .i64 n0,.string t0,.string x0,(.slice A0 l0' c0),.int .i64 k1,.bool b1,.int .i64 n1,.string t1,.string x1,(.slice A1 l1' c1),.int .i64 k2,.bool b2,.int .i64 n2,.string t2,.string x2,(.slice A2 l2' c2)] 41)).alloc (.cells #[.int .i64 0,.bool false,.int .i64 0,.string ⟨#[]⟩,.string ⟨#[]⟩,.slice none 0 0,.int .i64 0,.bool false,.int .i64 0,.string ⟨#[]⟩,.string ⟨#[]⟩,.slice none 0 0,.int .i64 0,.bool false,.int .i64 0,.string ⟨#[]⟩,.string ⟨#[]⟩,.slice none 0 0] 99))
 have HB:=hid (show Below w.heap.size w w1 from by rw[←HW1.out];exact two_new w _ _)
 have HX:=hid (show w1.heap[z]?=some (.cells #[.int .i64 k0,.bool b0,.int .i64 n0,.string t0,.string x0,(.slice A0 l0' c0),.int .i64 k1,.bool b1,.int .i64 n1,.string t1,.string x1,(.slice A1 l1' c1),.int .i64 k2,.bool b2,.int .i64 n2,.string t2,.string x2,(.slice A2 l2' c2)] 41 (0,0)) from by rw[←HW1.out,←Hz.out];exact heap_alloc2_old w _ _)
 have HY:=hid (show w1.heap[z+1]?=some (.cells #[.int .i64 0,.bool false,.int .i64 0,.string ⟨#[]⟩,.string ⟨#[]⟩,.slice none 0 0,.int .i64 0,.bool false,.int .i64 0,.string ⟨#[]⟩,.string ⟨#[]⟩,.slice none 0 0,.int .i64 0,.bool false,.int .i64 0,.string ⟨#[]⟩,.string ⟨#[]⟩,.slice none 0 0] 99 (0,0)) from by rw[←HW1.out,←Hz.out];exact heap_alloc2_new w _ _)
 go_enter Tryz.func47,Tryz.ntmps47
 go_upto_region 1 with fail
 rw[HW1.out,Hz.out]
 clear HW1
 have p0:=(show w1.cell? ⟨z,0,none⟩=some (.int .i64 k0) from cell_of_heap HX.out 0)
 have p1:=(show w1.cell? ⟨z,1,none⟩=some (.bool b0) from cell_of_heap HX.out 1)
 have p2:=(show w1.cell? ⟨z,2,none⟩=some (.int .i64 n0) from cell_of_heap HX.out 2)
 have p3:=(show w1.cell? ⟨z,3,none⟩=some (.string t0) from cell_of_heap HX.out 3)
 have p4:=(show w1.cell? ⟨z,4,none⟩=some (.string x0) from cell_of_heap HX.out 4)
 have p5:=(show w1.cell? ⟨z,5,none⟩=some (.slice A0 l0' c0) from cell_of_heap HX.out 5)
 have p6:=(show w1.cell? ⟨z,6,none⟩=some (.int .i64 k1) from cell_of_heap HX.out 6)
 have p7:=(show w1.cell? ⟨z,7,none⟩=some (.bool b1) from cell_of_heap HX.out 7)
 have p8:=(show w1.cell? ⟨z,8,none⟩=some (.int .i64 n1) from cell_of_heap HX.out 8)
 have p9:=(show w1.cell? ⟨z,9,none⟩=some (.string t1) from cell_of_heap HX.out 9)
 have p10:=(show w1.cell? ⟨z,10,none⟩=some (.string x1) from cell_of_heap HX.out 10)
 have p11:=(show w1.cell? ⟨z,11,none⟩=some (.slice A1 l1' c1) from cell_of_heap HX.out 11)
 have p12:=(show w1.cell? ⟨z,12,none⟩=some (.int .i64 k2) from cell_of_heap HX.out 12)
 have p13:=(show w1.cell? ⟨z,13,none⟩=some (.bool b2) from cell_of_heap HX.out 13)
 have p14:=(show w1.cell? ⟨z,14,none⟩=some (.int .i64 n2) from cell_of_heap HX.out 14)
 have p15:=(show w1.cell? ⟨z,15,none⟩=some (.string t2) from cell_of_heap HX.out 15)
 have p16:=(show w1.cell? ⟨z,16,none⟩=some (.string x2) from cell_of_heap HX.out 16)
 have p17:=(show w1.cell? ⟨z,17,none⟩=some (.slice A2 l2' c2) from cell_of_heap HX.out 17)
 go_wp2_with ((with_reducible refine at_st 2 ?_);refine st_row rfl 99 _ _ rfl (z+1) (#[.int .i64 0,.bool false,.int .i64 0,.string ⟨#[]⟩,.string ⟨#[]⟩,.slice none 0 0,.int .i64 0,.bool false,.int .i64 0,.string ⟨#[]⟩,.string ⟨#[]⟩,.slice none 0 0,.int .i64 0,.bool false,.int .i64 0,.string ⟨#[]⟩,.string ⟨#[]⟩,.slice none 0 0]) (#[.int .i64 k0,.bool b0,.int .i64 n0,.string t0,.string x0,(.slice A0 l0' c0),.int .i64 k1,.bool b1,.int .i64 n1,.string t1,.string x1,(.slice A1 l1' c1),.int .i64 k2,.bool b2,.int .i64 n2,.string t2,.string x2,(.slice A2 l2' c2)]) 99 rfl rfl HY.out rfl st_info.out st_one.out ?_;intro w2 hw2 ht2)
 have HB2:=hid (show Below w.heap.size w w2 from HB.out.trans ⟨ht2.os,ht2.tape,ht2.output,ht2.size,λk hk=>ht2.block k (Nat.lt_of_lt_of_le hk HB.out.size) (by rw[←Hz.out];omega)⟩)
 have HW2:=hid hw2
 clear hw2 ht2
 go_wp2_with fail
 refine bodyPost_ret (v:=.agg #[.int .i64 k0,.bool b0,.int .i64 n0,.string t0,.string x0,(.slice A0 l0' c0),.int .i64 k1,.bool b1,.int .i64 n1,.string t1,.string x1,(.slice A1 l1' c1),.int .i64 k2,.bool b2,.int .i64 n2,.string t2,.string x2,(.slice A2 l2' c2)]) (results_row Tryz.results47 (g:=z+1) rfl HW2.out _ Tryz.underlying99 rfl st_info.out) rfl ⟨rfl,HB2.out⟩
theorem checkT_any (t:Trip) (ok:OkT t) (F:Nat→Prop) (ss:Nat→Value) (w:World) (hF:∀g,F g→g<w.heap.size) (hv:∀n,n<3→VRd w F (t.get n) (.agg (cellsV (t.get n) (ss n)))) (hg:GlobB w) :
    Calls Tryz.prog 15 #[.agg (cellsT t ss)] w (ToldB (mayT t) w):=by
 have hc0:=hid (λ(W:World) (hb:Below w.heap.size w W)=>check_any t.s (Nat.le_trans ok.1.size (by decide)) F (.agg (cellsV t.s (ss 0))) W (λg h=>Nat.lt_of_lt_of_le (hF g h) hb.size) ((hv 0 (by omega)).under hb hF) (glob_under hg hb))
 have hc1:=hid (λ(W:World) (hb:Below w.heap.size w W)=>check_any t.p (Nat.le_trans ok.2.1.size (by decide)) F (.agg (cellsV t.p (ss 1))) W (λg h=>Nat.lt_of_lt_of_le (hF g h) hb.size) ((hv 1 (by omega)).under hb hF) (glob_under hg hb))
 have hc2:=hid (λ(W:World) (hb:Below w.heap.size w W)=>check_any t.o (Nat.le_trans ok.2.2.size (by decide)) F (.agg (cellsV t.o (ss 2))) W (λg h=>Nat.lt_of_lt_of_le (hF g h) hb.size) ((hv 2 (by omega)).under hb hF) (glob_under hg hb))
 clear ok hv hF hg
 unfold ToldB at hc0 hc1 hc2 ⊢
 cases t with
 | mk s p o=>
 rw[mayT_in]
 have D8:=hid (And.intro (λh:p.kind=8=>(decide_eq_true h:decide (p.kind=8)=true)) (λh:p.kind≠8=>(decide_eq_false h:decide (p.kind=8)=false)))
 have D9:=hid (And.intro (λh:s.kind=8∨s.kind=9=>(decide_eq_true h:decide (s.kind=8∨s.kind=9)=true)) (λh:¬(s.kind=8∨s.kind=9)=>(decide_eq_false h:decide (s.kind=8∨s.kind=9)=false)))
 have hct:=hid (λ(W:World) (g:Nat) (h:SRd 1 IxR W (λb=>b=g) oKinds (some ⟨g,0,none⟩) 7)=>containsI_any oKinds o.kind (λb=>b=g) (some ⟨g,0,none⟩) 7 7 W h (by omega))
 unfold ToldS at hct
 obtain⟨d8,Hd8⟩:=name_itV (decide (p.kind=8))
 obtain⟨d9,Hd9⟩:=name_itV (decide (s.kind=8∨s.kind=9))
 obtain⟨iv,Hiv⟩:=name_itV (inI oKinds o.kind)
 rw[Hd8.out]at D8 ⊢
 rw[Hd9.out]at D9 ⊢
 rw[Hiv.out]at hct ⊢
 clear Hd8 Hd9 Hiv
 obtain⟨m0,H0⟩:=name_itV (mayV s 0)
 obtain⟨m1,H1⟩:=name_itV (mayV p 0)
 obtain⟨m2,H2⟩:=name_itV (mayV o 0)
 simp only at hc0 hc1 hc2
 rw[H0.out]at hc0 ⊢
 rw[H1.out]at hc1 ⊢
 rw[H2.out]at hc2 ⊢
 clear H0 H1 H2
 cases s with
 | mk k0 b0 n0 t0 x0 l0=>
 cases p with
 | mk k1 b1 n1 t1 x1 l1=>
 cases o with
 | mk k2 b2 n2 t2 x2 l2=>
 unfold cellsV at hc0 hc1 hc2
 rw[cellsT_lit]
 simp only[Val.kind,Val.truth,Val.num,Val.text,Val.extra]at hc0 hc1 hc2 hct D8 D9 ⊢
 obtain⟨u0,h0⟩:=name_itV (ss 0)
 obtain⟨u1,h1⟩:=name_itV (ss 1)
 obtain⟨u2,h2⟩:=name_itV (ss 2)
 rw[h0.out]at hc0 ⊢
 rw[h1.out]at hc1 ⊢
 rw[h2.out]at hc2 ⊢
 clear h0 h1 h2
 obtain⟨z,Hz⟩:=name_itV w.heap.size
 obtain⟨w1,HW1⟩:=name_itV (w.alloc (.cells #[.int .i64 k0,.bool b0,.int .i64 n0,.string t0,.string x0,u0,.int .i64 k1,.bool b1,.int .i64 n1,.string t1,.string x1,u1,.int .i64 k2,.bool b2,.int .i64 n2,.string t2,.string x2,u2] 41))
 have HB:=hid (show Below w.heap.size w w1 from by rw[←HW1.out];exact (Below.refl _ _).alloc (Nat.le_refl _) _)
 have HX:=hid (show w1.heap[z]?=some (.cells #[.int .i64 k0,.bool b0,.int .i64 n0,.string t0,.string x0,u0,.int .i64 k1,.bool b1,.int .i64 n1,.string t1,.string x1,u1,.int .i64 k2,.bool b2,.int .i64 n2,.string t2,.string x2,u2] 41 (0,0)) from by rw[←HW1.out,←Hz.out];exact heap_alloc_new w _)
 go_enter Tryz.func15,Tryz.ntmps15
 go_upto_region 1 with fail
 rw[HW1.out,Hz.out]
 clear HW1
 have p0:=(show w1.cell? ⟨z,0,none⟩=some (.int .i64 k0) from cell_of_heap HX.out 0)
 have p1:=(show w1.cell? ⟨z,1,none⟩=some (.bool b0) from cell_of_heap HX.out 1)
 have p2:=(show w1.cell? ⟨z,2,none⟩=some (.int .i64 n0) from cell_of_heap HX.out 2)
 have p3:=(show w1.cell? ⟨z,3,none⟩=some (.string t0) from cell_of_heap HX.out 3)
 have p4:=(show w1.cell? ⟨z,4,none⟩=some (.string x0) from cell_of_heap HX.out 4)
 have p5:=(show w1.cell? ⟨z,5,none⟩=some u0 from cell_of_heap HX.out 5)
 have p6:=(show w1.cell? ⟨z,6,none⟩=some (.int .i64 k1) from cell_of_heap HX.out 6)
 have p7:=(show w1.cell? ⟨z,7,none⟩=some (.bool b1) from cell_of_heap HX.out 7)
 have p8:=(show w1.cell? ⟨z,8,none⟩=some (.int .i64 n1) from cell_of_heap HX.out 8)
 have p9:=(show w1.cell? ⟨z,9,none⟩=some (.string t1) from cell_of_heap HX.out 9)
 have p10:=(show w1.cell? ⟨z,10,none⟩=some (.string x1) from cell_of_heap HX.out 10)
 have p11:=(show w1.cell? ⟨z,11,none⟩=some u1 from cell_of_heap HX.out 11)
 have p12:=(show w1.cell? ⟨z,12,none⟩=some (.int .i64 k2) from cell_of_heap HX.out 12)
 have p13:=(show w1.cell? ⟨z,13,none⟩=some (.bool b2) from cell_of_heap HX.out 13)
 have p14:=(show w1.cell? ⟨z,14,none⟩=some (.int .i64 n2) from cell_of_heap HX.out 14)
 have p15:=(show w1.cell? ⟨z,15,none⟩=some (.string t2) from cell_of_heap HX.out 15)
 have p16:=(show w1.cell? ⟨z,16,none⟩=some (.string x2) from cell_of_heap HX.out 16)
 have p17:=(show w1.cell? ⟨z,17,none⟩=some u2 from cell_of_heap HX.out 17)
 go_wp2_with fail
 refine (hc0.out _ HB.out).mono ?_
 rintro e w2 ⟨rfl,hb⟩
 have HB_w2:=hid (HB.out.trans (hb.mono HB.out.size))
 have HX_w2:=hid ((hb.block _ (blk_lt HX.out)).trans HX.out)
 clear hb p0 p1 p2 p3 p4 p5 p6 p7 p8 p9 p10 p11 p12 p13 p14 p15 p16 p17
 have p0:=(show w2.cell? ⟨z,0,none⟩=some (.int .i64 k0) from cell_of_heap HX_w2.out 0)
 have p1:=(show w2.cell? ⟨z,1,none⟩=some (.bool b0) from cell_of_heap HX_w2.out 1)
 have p2:=(show w2.cell? ⟨z,2,none⟩=some (.int .i64 n0) from cell_of_heap HX_w2.out 2)
 have p3:=(show w2.cell? ⟨z,3,none⟩=some (.string t0) from cell_of_heap HX_w2.out 3)
 have p4:=(show w2.cell? ⟨z,4,none⟩=some (.string x0) from cell_of_heap HX_w2.out 4)
 have p5:=(show w2.cell? ⟨z,5,none⟩=some u0 from cell_of_heap HX_w2.out 5)
 have p6:=(show w2.cell? ⟨z,6,none⟩=some (.int .i64 k1) from cell_of_heap HX_w2.out 6)
 have p7:=(show w2.cell? ⟨z,7,none⟩=some (.bool b1) from cell_of_heap HX_w2.out 7)
 have p8:=(show w2.cell? ⟨z,8,none⟩=some (.int .i64 n1) from cell_of_heap HX_w2.out 8)
 have p9:=(show w2.cell? ⟨z,9,none⟩=some (.string t1) from cell_of_heap HX_w2.out 9)
 have p10:=(show w2.cell? ⟨z,10,none⟩=some (.string x1) from cell_of_heap HX_w2.out 10)
 have p11:=(show w2.cell? ⟨z,11,none⟩=some u1 from cell_of_heap HX_w2.out 11)
 have p12:=(show w2.cell? ⟨z,12,none⟩=some (.int .i64 k2) from cell_of_heap HX_w2.out 12)
 have p13:=(show w2.cell? ⟨z,13,none⟩=some (.bool b2) from cell_of_heap HX_w2.out 13)
 have p14:=(show w2.cell? ⟨z,14,none⟩=some (.int .i64 n2) from cell_of_heap HX_w2.out 14)
 have p15:=(show w2.cell? ⟨z,15,none⟩=some (.string t2) from cell_of_heap HX_w2.out 15)
 have p16:=(show w2.cell? ⟨z,16,none⟩=some (.string x2) from cell_of_heap HX_w2.out 16)
 have p17:=(show w2.cell? ⟨z,17,none⟩=some u2 from cell_of_heap HX_w2.out 17)
 cases m0 with
 | false=>
  go_wp2_with fail
  go_ret
  exact⟨rfl,HB_w2.out⟩
 | true=>
  go_wp2_with fail
  refine (hc1.out _ HB_w2.out).mono ?_
  rintro e w3 ⟨rfl,hb⟩
  have HB_w3:=hid (HB_w2.out.trans (hb.mono HB_w2.out.size))
  have HX_w3:=hid ((hb.block _ (blk_lt HX_w2.out)).trans HX_w2.out)
  clear hb p0 p1 p2 p3 p4 p5 p6 p7 p8 p9 p10 p11 p12 p13 p14 p15 p16 p17
  have p0:=(show w3.cell? ⟨z,0,none⟩=some (.int .i64 k0) from cell_of_heap HX_w3.out 0)
  have p1:=(show w3.cell? ⟨z,1,none⟩=some (.bool b0) from cell_of_heap HX_w3.out 1)
  have p2:=(show w3.cell? ⟨z,2,none⟩=some (.int .i64 n0) from cell_of_heap HX_w3.out 2)
  have p3:=(show w3.cell? ⟨z,3,none⟩=some (.string t0) from cell_of_heap HX_w3.out 3)
  have p4:=(show w3.cell? ⟨z,4,none⟩=some (.string x0) from cell_of_heap HX_w3.out 4)
  have p5:=(show w3.cell? ⟨z,5,none⟩=some u0 from cell_of_heap HX_w3.out 5)
  have p6:=(show w3.cell? ⟨z,6,none⟩=some (.int .i64 k1) from cell_of_heap HX_w3.out 6)
  have p7:=(show w3.cell? ⟨z,7,none⟩=some (.bool b1) from cell_of_heap HX_w3.out 7)
  have p8:=(show w3.cell? ⟨z,8,none⟩=some (.int .i64 n1) from cell_of_heap HX_w3.out 8)
  have p9:=(show w3.cell? ⟨z,9,none⟩=some (.string t1) from cell_of_heap HX_w3.out 9)
  have p10:=(show w3.cell? ⟨z,10,none⟩=some (.string x1) from cell_of_heap HX_w3.out 10)
  have p11:=(show w3.cell? ⟨z,11,none⟩=some u1 from cell_of_heap HX_w3.out 11)
  have p12:=(show w3.cell? ⟨z,12,none⟩=some (.int .i64 k2) from cell_of_heap HX_w3.out 12)
  have p13:=(show w3.cell? ⟨z,13,none⟩=some (.bool b2) from cell_of_heap HX_w3.out 13)
  have p14:=(show w3.cell? ⟨z,14,none⟩=some (.int .i64 n2) from cell_of_heap HX_w3.out 14)
  have p15:=(show w3.cell? ⟨z,15,none⟩=some (.string t2) from cell_of_heap HX_w3.out 15)
  have p16:=(show w3.cell? ⟨z,16,none⟩=some (.string x2) from cell_of_heap HX_w3.out 16)
  have p17:=(show w3.cell? ⟨z,17,none⟩=some u2 from cell_of_heap HX_w3.out 17)
  cases m1 with
  | false=>
   go_wp2_with fail
   go_ret
   exact⟨rfl,HB_w3.out⟩
  | true=>
   go_wp2_with fail
   refine (hc2.out _ HB_w3.out).mono ?_
   rintro e w4 ⟨rfl,hb⟩
   have HB_w4:=hid (HB_w3.out.trans (hb.mono HB_w3.out.size))
   have HX_w4:=hid ((hb.block _ (blk_lt HX_w3.out)).trans HX_w3.out)
   clear hb p0 p1 p2 p3 p4 p5 p6 p7 p8 p9 p10 p11 p12 p13 p14 p15 p16 p17
   have p0:=(show w4.cell? ⟨z,0,none⟩=some (.int .i64 k0) from cell_of_heap HX_w4.out 0)
   have p1:=(show w4.cell? ⟨z,1,none⟩=some (.bool b0) from cell_of_heap HX_w4.out 1)
   have p2:=(show w4.cell? ⟨z,2,none⟩=some (.int .i64 n0) from cell_of_heap HX_w4.out 2)
   have p3:=(show w4.cell? ⟨z,3,none⟩=some (.string t0) from cell_of_heap HX_w4.out 3)
   have p4:=(show w4.cell? ⟨z,4,none⟩=some (.string x0) from cell_of_heap HX_w4.out 4)
   have p5:=(show w4.cell? ⟨z,5,none⟩=some u0 from cell_of_heap HX_w4.out 5)
   have p6:=(show w4.cell? ⟨z,6,none⟩=some (.int .i64 k1) from cell_of_heap HX_w4.out 6)
   have p7:=(show w4.cell? ⟨z,7,none⟩=some (.bool b1) from cell_of_heap HX_w4.out 7)
   have p8:=(show w4.cell? ⟨z,8,none⟩=some (.int .i64 n1) from cell_of_heap HX_w4.out 8)
   have p9:=(show w4.cell? ⟨z,9,none⟩=some (.string t1) from cell_of_heap HX_w4.out 9)
   have p10:=(show w4.cell? ⟨z,10,none⟩=some (.string x1) from cell_of_heap HX_w4.out 10)
   have p11:=(show w4.cell? ⟨z,11,none⟩=some u1 from cell_of_heap HX_w4.out 11)
   have p12:=(show w4.cell? ⟨z,12,none⟩=some (.int .i64 k2) from cell_of_heap HX_w4.out 12)
   have p13:=(show w4.cell? ⟨z,13,none⟩=some (.bool b2) from cell_of_heap HX_w4.out 13)
   have p14:=(show w4.cell? ⟨z,14,none⟩=some (.int .i64 n2) from cell_of_heap HX_w4.out 14)
   have p15:=(show w4.cell? ⟨z,15,none⟩=some (.string t2) from cell_of_heap HX_w4.out 15)
   have p16:=(show w4.cell? ⟨z,16,none⟩=some (.string x2) from cell_of_heap HX_w4.out 16)
   have p17:=(show w4.cell? ⟨z,17,none⟩=some u2 from cell_of_heap HX_w4.out 17)
   cases m2 with
   | false=>
    go_wp2_with fail
    go_ret
    exact⟨rfl,HB_w4.out⟩
   | true=>
    by_cases hk1:k1=8
    ·have e1:(k1 != 8)=false:=by simpa using hk1
     have E1:=hid (D8.out.1 hk1)
     clear hk1
     by_cases hk0:k0=8
     ·have e0:(k0 != 8)=false:=by simpa using hk0
      have E0:=hid (D9.out.1 (.inl hk0))
      clear hk0
      have q12:(w4.alloc (.cells #[.int .i64 8,.int .i64 9,.int .i64 10,.int .i64 4,.int .i64 1,.int .i64 2,.int .i64 3] 3)).cell? ⟨z,12,none⟩=some (.int .i64 k2):=cell_of_heap ((Below.heap_alloc _ _ _ (blk_lt HX_w4.out)).trans HX_w4.out) 12
      have hcl:=hid (hct.out (w4.alloc (.cells #[.int .i64 8,.int .i64 9,.int .i64 10,.int .i64 4,.int .i64 1,.int .i64 2,.int .i64 3] 3)) w4.heap.size (seven_rd w4))
      clear D8 D9 hct
      go_wp2_with fail
      refine hcl.out.mono ?_
      rintro e w5 ⟨rfl,hw5⟩
      subst w5
      go_wp2_with fail
      go_ret
      exact⟨by rw[E0.out,E1.out];rfl,HB_w4.out.alloc (by have:=HB_w4.out.size;omega) _⟩
     ·have e0:(k0 != 8)=true:=bne_iff_ne.2 hk0
      by_cases hk9:k0=9
      ·have e9:(k0 != 9)=false:=by simpa using hk9
       have E0:=hid (D9.out.1 (.inr hk9))
       clear hk0 hk9
       have q12:(w4.alloc (.cells #[.int .i64 8,.int .i64 9,.int .i64 10,.int .i64 4,.int .i64 1,.int .i64 2,.int .i64 3] 3)).cell? ⟨z,12,none⟩=some (.int .i64 k2):=cell_of_heap ((Below.heap_alloc _ _ _ (blk_lt HX_w4.out)).trans HX_w4.out) 12
       have hcl:=hid (hct.out (w4.alloc (.cells #[.int .i64 8,.int .i64 9,.int .i64 10,.int .i64 4,.int .i64 1,.int .i64 2,.int .i64 3] 3)) w4.heap.size (seven_rd w4))
       clear D8 D9 hct
       go_wp2_with fail
       refine hcl.out.mono ?_
       rintro e w5 ⟨rfl,hw5⟩
       subst w5
       go_wp2_with fail
       go_ret
       exact⟨by rw[E0.out,E1.out];rfl,HB_w4.out.alloc (by have:=HB_w4.out.size;omega) _⟩
      ·have e9:(k0 != 9)=true:=bne_iff_ne.2 hk9
       have E0:=hid (D9.out.2 (by omega))
       clear hk0 hk9
       go_wp2_with fail
       go_ret
       exact⟨by rw[E0.out,E1.out];rfl,HB_w4.out⟩
    ·have e1:(k1 != 8)=true:=bne_iff_ne.2 hk1
     have E1:=hid (D8.out.2 hk1)
     clear hk1
     go_wp2_with fail
     go_ret
     exact⟨by rw[E1.out];rfl,HB_w4.out⟩
theorem run_loadVar_at {P:Program} (w:World) (a:Addr) (ty:TypeId) (c:Array Value) (d:TypeDesc) (hc:∀j,j<c.size→w.cell? (a.add j)=c[j]?)
    (hu:P.underlying ty=some d) (hd:d.isRow=true) (hi:(P.info? ty).map (·.size)=some c.size):(loadVar ty a).run P w = .ok (.agg c) w:=by
 have hl:(loadCells a c.size).run P w = .ok c w:=by
  have:=run_loadCells_list (P:=P) w a c.toList (λj v hv=>by
   have hj:j<c.size:=by have:=(List.getElem?_eq_some_iff.1 hv).1;simpa using this
   rw[hc j hj,←Array.getElem?_toList]
   exact hv)
  rw[Array.toArray_toList,Array.length_toList]at this
  exact this
 cases hq:P.info? ty with
 | none=>simp[hq]at hi
 | some i=>
  have hs:i.size=c.size:=by simpa [hq] using hi
  have hagg:(isAgg ty).run P w = .ok true w:=by
   unfold isAgg
   rw[Sem.run_bind,run_underlying hu w]
   cases d<;>simp_all
  simp[loadVar,Sem.run_bind,hagg,sizeOf,typeInfo,hq,hs,hl]
theorem ld_armA {P:Program} {ops:Array Oper} {rest:List Oper} {op:Oper} {a:Act} {w:World} {Q:Exit→Act→World→Prop} (hgd:op.guard=none) (ty:TypeId) (x:Operand) (ho:op.op = .load ty x) {p:Addr} (hx:a.eval x = .pointer (some p)) (c:Array Value) (d:TypeDesc) (hc:∀j,j<c.size→w.cell? (p.add j)=c[j]?)
    (hu:P.underlying ty=some d) (hd:d.isRow=true) (hi:(P.info? ty).map (·.size)=some c.size) (h:wpList P ops Q rest (a.put op.dst (.agg c)) w):wpList P ops Q (op::rest) a w:=
 wpList_plain hgd λ_ hK=>by
  unfold Oper.wp execOp
  simp only[ho,hx,Instr.loadAt,Instr.sureAddr,Sem.run_bind,Sem.run_pure,Result.andThen_ok,run_loadVar_at w p ty c d hc hu hd hi]
  exact hK _ _ h
theorem infoTr:(Tryz.prog.info? 41).map (·.size)=some 18:=by kernel_rfl
theorem infoPt:(Tryz.prog.info? 99).map (·.size)=some 18:=by kernel_rfl
theorem bad_any (t:Trip) (ok:OkT t) (F:Nat→Prop) (ss:Nat→Value) (w:World) (hF:∀g,F g→g<w.heap.size) (hv:∀n,n<3→VRd w F (t.get n) (.agg (cellsV (t.get n) (ss n)))) (hg:GlobB w) :
    Calls Tryz.prog 46 #[.agg (cellsT t ss)] w (ToldB (!(mayT t)) w):=by
 have hc:=hid (λ(W:World) (hb:Below w.heap.size w W)=>checkT_any t ok F ss W (λg h=>Nat.lt_of_lt_of_le (hF g h) hb.size) (λn hn=>(hv n hn).under hb hF) (glob_under hg hb))
 clear hv hF hg ok
 unfold ToldB at hc ⊢
 obtain⟨m,Hm⟩:=name_itV (mayT t)
 rw[Hm.out]at hc ⊢
 clear Hm
 obtain⟨c1,Hc1⟩:=name18 t ss
 rw[Hc1.out]at hc ⊢
 have Q1:=hid (infoTr.trans (congrArg some Hc1.size.symm))
 obtain⟨z,Hz⟩:=name_itV w.heap.size
 obtain⟨w1,HW1⟩:=name_itV (w.alloc (.cells c1 41))
 have HB:=hid (show Below w.heap.size w w1 from by rw[←HW1.out];exact (Below.refl _ _).alloc (Nat.le_refl _) _)
 have HX:=hid (show w1.heap[z]?=some (.cells c1 41 (0,0)) from by rw[←HW1.out,←Hz.out];exact heap_alloc_new w _)
 go_enter Tryz.func46,Tryz.ntmps46
 go_upto_region 1 with fail
 rw[HW1.out,Hz.out]
 clear HW1
 go_wp2_with ((with_reducible refine at_dst (some 3) ?_);refine ld_arm rfl 41 _ rfl z 0 rfl c1 _ (range_row HX.out) Tryz.underlying41 rfl Q1.out ?_)
 refine (hc.out _ HB.out).mono ?_
 rintro e w2 ⟨rfl,hb⟩
 have HB2:=hid (HB.out.trans (hb.mono HB.out.size))
 clear hb
 go_wp2_with fail
 go_ret
 exact⟨rfl,HB2.out⟩
theorem TrR.cells {w:World} {F:Nat→Prop} {L:List Trip} {A:Option Addr} {n:Nat} (h:SRd 18 TrR w F L A n) {k:Nat} {t:Trip} (ht:L[k]?=some t) :
    ∃ad ss,A=some ad∧F ad.block∧(∀j,j<(cellsT t ss).size→w.cell? ((ad.add (k*18)).add j)=(cellsT t ss)[j]?)∧∀i,i<3→VRd w F (t.get i) (.agg (cellsV (t.get i) (ss i))):=by
 obtain⟨ad,c,e,hF,hs,hc,ss,rfl,hr⟩:=h.at_ ht
 exact⟨ad,ss,e,hF,λj hj=>by rw[add_of_add];exact hc j hj,hr⟩
def AnyIs (b:Bool) (w:World) (e:Ending) (w':World):Prop:=∃r:Int,e = .returned (.int .i64 r)∧decide (0≤r)=b∧Below w.heap.size w w'
theorem idxF_any (L:List Trip) (hok:∀t,t∈L→OkT t) (F:Nat→Prop) (A:Option Addr) (n c:Nat) (w:World) (hF:∀g,F g→g<w.heap.size) (h:SRd 18 TrR w F L A n) (hn:n≤1000000000) (hg:GlobB w) :
    Calls Tryz.prog 111 #[.slice A n c,.func (.func 46) #[] #[]] w (AnyIs (!(L.all mayT)) w):=by
 have H1:=hid (λ(W:World) (hb:Below w.heap.size w W)=>h.under TrR.good hb hF)
 have L1:=hid h.1
 have hbad:=hid (λ(W:World) (hb:Below w.heap.size w W) (t:Trip) (ht:t∈L) (ss:Nat→Value) (hv:∀n,n<3→VRd W F (t.get n) (.agg (cellsV (t.get n) (ss n))))=>bad_any t (hok t ht) F ss W (λg h=>Nat.lt_of_lt_of_le (hF g h) hb.size) hv (glob_under hg hb))
 unfold ToldB at hbad
 clear h hok hF hg
 obtain⟨r,HR⟩:=name_itV (!(L.all mayT))
 rw[HR.out]
 go_enter Tryz.func111,Tryz.ntmps111
 go_wp2_with fail
 go_loopw [8] (λs5 wx=>∃k:Nat,k≤n∧s5 = .int .i64 (k:Nat)∧Hid (Below w.heap.size w wx∧(L.take k).all mayT=true)) (λs5 _=>n-(intOf s5).toNat)
 case atStart=>exact⟨0,by omega,rfl,hid ⟨Below.refl _ _,by simp⟩⟩
 case round=>
  obtain⟨k,hk,rfl,hM⟩:=hrel
  by_cases hlt:k<n
  ·obtain⟨y,hy⟩:∃y,L[k]?=some y:=⟨L[k]'(by rw[←L1.out];exact hlt),List.getElem?_eq_getElem _⟩
   have HY:=hid hy
   obtain⟨ad,ss,rfl,_,hq,hr⟩:=TrR.cells (H1.out wr hM.out.1) hy
   have hcall:=hid (hbad.out wr hM.out.1 y (List.mem_of_getElem? hy) ss hr)
   clear hy hr
   obtain⟨m,Hm⟩:=name_itV (mayT y)
   rw[Hm.out]at hcall
   obtain⟨c1,Hc1⟩:=name18 y ss
   rw[Hc1.out]at hcall hq
   have HQ:=hid hq
   clear hq
   have Q1:=hid (infoTr.trans (congrArg some Hc1.size.symm))
   have e1:(0:Int)≤k:=by omega
   have e2:(k:Int)<n:=by omega
   have w1:IntKind.i64.wrap ((k:Int)+1)=(k:Int)+1:=IntWalk.i64_in _ (by omega)
   go_wp2_with ((with_reducible refine at_dst (some 15) ?_);refine ld_armA rfl 41 _ rfl rfl c1 _ HQ.out Tryz.underlying41 rfl Q1.out ?_)
   refine hcall.out.mono ?_
   rintro e w2 ⟨rfl,hb⟩
   have HB2:=hid (hM.out.1.trans (hb.mono hM.out.1.size))
   have HA:=hid hM.out.2
   clear hb hM hcall HQ
   cases m with
   | false=>
    have HN:=hid (show r=true from by
     rw[←HR.out,Bool.not_eq_true',List.all_eq_false]
     exact⟨y,List.mem_of_getElem? HY.out,by rw[Hm.out];exact Bool.false_ne_true⟩)
    go_wp2_with fail
    go_ret
    exact⟨(k:Int),rfl,by rw[HN.out];simp,HB2.out⟩
   | true=>
    go_wp2_with fail
    go_roundw
    case rel=>exact⟨k+1,by omega,by go_num,hid ⟨HB2.out,by rw[take_oneMore HY.out,List.all_append,HA.out,Bool.true_and];simp[Hm.out]⟩⟩
    case measure=>simp[intOf];omega
  ·have hke:n=k:=by omega
   subst hke
   have HN:=hid (show r=false from by
    rw[←HR.out,Bool.not_eq_false']
    have h:=hM.out.2
    rw[List.take_of_length_le (by rw[←L1.out];exact Nat.le_refl _)]at h
    exact h)
   go_wp2_with fail
   go_ret
   exact⟨-1,rfl,by rw[HN.out];simp,hM.out.1⟩
theorem containsF_any (L:List Trip) (hok:∀t,t∈L→OkT t) (F:Nat→Prop) (A:Option Addr) (n c:Nat) (w:World) (hF:∀g,F g→g<w.heap.size) (h:SRd 18 TrR w F L A n) (hn:n≤1000000000) (hg:GlobB w) :
    Calls Tryz.prog 45 #[.slice A n c,.func (.func 46) #[] #[]] w (ToldB (!(L.all mayT)) w):=by
 have HI:=hid (idxF_any L hok F A n c w hF h hn hg)
 unfold AnyIs at HI
 clear h hok hF hg
 obtain⟨r,HR⟩:=name_itV (!(L.all mayT))
 rw[HR.out]at HI ⊢
 clear HR
 go_enter Tryz.func45,Tryz.ntmps45
 go_wp2_with fail
 refine HI.out.mono ?_
 rintro e w1 ⟨q,rfl,hr,hb⟩
 have HQ:=hid hr
 clear hr
 go_wp2_with fail
 go_ret
 exact⟨by rw[←HQ.out];rfl,hb⟩
def wayC (W:Way):Array Value:=#[.int .i64 (W.i:Nat),.int .i64 (W.j:Nat),.int .i64 (W.k:Nat)]
theorem clos2_any (W:Way) (hW:W.Ok) (a b:Trip) (sa sb:Nat→Value) (g:Nat) (w:World) (hp:w.heap[g]?=some (.cells (wayC W) 101 (0,0))) (ka:∀n,KindT (a.get n)) (fb:∀n,FitV (b.get n)) (hgb:GlobB w) (hgt:GlobT w) :
    Calls Tryz.prog 50 #[.agg (cellsT a sa),.agg (cellsT b sb),.pointer (some ⟨g,0,none⟩)] w (AlIs W a b w):=by
 have hc:=hid (λ(W':World) (hb:Below w.heap.size w W')=>along_any W hW a b sa sb W' ka fb (glob_under hgb hb) (globT_under hgt hb))
 clear ka fb hgb hgt hW
 unfold AlIs at hc ⊢
 obtain⟨v,Hv⟩:=name_itV (along W a b)
 rw[Hv.out]at hc ⊢
 clear Hv
 obtain⟨c1,Hc1⟩:=name18 a sa
 obtain⟨c2,Hc2⟩:=name18 b sb
 rw[Hc1.out,Hc2.out]at hc ⊢
 have Q1:=hid (infoPt.trans (congrArg some Hc1.size.symm))
 have Q2:=hid (infoPt.trans (congrArg some Hc2.size.symm))
 obtain⟨z,Hz⟩:=name_itV w.heap.size
 obtain⟨w1,HW1⟩:=name_itV ((w.alloc (.cells c1 99)).alloc (.cells c2 99))
 have HB:=hid (show Below w.heap.size w w1 from by rw[←HW1.out];exact two_new w _ _)
 have HX:=hid (show w1.heap[z]?=some (.cells c1 99 (0,0)) from by rw[←HW1.out,←Hz.out];exact heap_alloc2_old w _ _)
 have HY:=hid (show w1.heap[z+1]?=some (.cells c2 99 (0,0)) from by rw[←HW1.out,←Hz.out];exact heap_alloc2_new w _ _)
 have HP:=hid (show w1.heap[g]?=some (.cells (wayC W) 101 (0,0)) from (HB.out.block g (blk_lt hp)).trans hp)
 clear hp
 obtain⟨i,Hi⟩:=name_itV W.i
 obtain⟨j,Hj⟩:=name_itV W.j
 obtain⟨l,Hl⟩:=name_itV W.k
 unfold wayC at HP
 rw[Hi.out,Hj.out,Hl.out]at hc HP
 have p0:w1.cell? ⟨g,0,none⟩=some (.int .i64 (i:Nat)):=cell_of_heap HP.out 0
 have p1:w1.cell? ⟨g,1,none⟩=some (.int .i64 (j:Nat)):=cell_of_heap HP.out 1
 have p2:w1.cell? ⟨g,2,none⟩=some (.int .i64 (l:Nat)):=cell_of_heap HP.out 2
 go_enter Tryz.func50,Tryz.ntmps50
 go_upto_region 1 with fail
 rw[HW1.out,Hz.out]
 clear HW1
 go_wp2_with (first
  | ((with_reducible refine at_dst (some 6) ?_);refine ld_arm rfl 99 _ rfl z 0 rfl c1 _ (range_row HX.out) Tryz.underlying99 rfl Q1.out ?_)
  | ((with_reducible refine at_dst (some 7) ?_);refine ld_arm rfl 99 _ rfl (z+1) 0 rfl c2 _ (range_row HY.out) Tryz.underlying99 rfl Q2.out ?_))
 refine (hc.out _ HB.out).mono ?_
 rintro e w2 ⟨rfl,hb⟩
 have HB2:=hid (HB.out.trans (hb.mono HB.out.size))
 clear hb p0 p1 p2
 go_wp2_with fail
 go_ret
 exact⟨rfl,HB2.out⟩
theorem clos3_any (W:Way) (hW:W.Ok) (a b:Trip) (sa sb:Nat→Value) (g:Nat) (w:World) (hp:w.heap[g]?=some (.cells (wayC W) 101 (0,0))) (ka:∀n,KindT (a.get n)) (fb:∀n,FitV (b.get n)) (hgb:GlobB w) (hgt:GlobT w) :
    Calls Tryz.prog 53 #[.agg (cellsT a sa),.agg (cellsT b sb),.pointer (some ⟨g,0,none⟩)] w (ToldB (along W a b==0) w):=by
 have hc:=hid (λ(W':World) (hb:Below w.heap.size w W')=>along_any W hW a b sa sb W' ka fb (glob_under hgb hb) (globT_under hgt hb))
 clear ka fb hgb hgt hW
 unfold AlIs at hc
 unfold ToldB
 obtain⟨v,Hv⟩:=name_itV (along W a b)
 rw[Hv.out]at hc ⊢
 clear Hv
 obtain⟨c1,Hc1⟩:=name18 a sa
 obtain⟨c2,Hc2⟩:=name18 b sb
 rw[Hc1.out,Hc2.out]at hc ⊢
 have Q1:=hid (infoPt.trans (congrArg some Hc1.size.symm))
 have Q2:=hid (infoPt.trans (congrArg some Hc2.size.symm))
 obtain⟨z,Hz⟩:=name_itV w.heap.size
 obtain⟨w1,HW1⟩:=name_itV ((w.alloc (.cells c1 99)).alloc (.cells c2 99))
 have HB:=hid (show Below w.heap.size w w1 from by rw[←HW1.out];exact two_new w _ _)
 have HX:=hid (show w1.heap[z]?=some (.cells c1 99 (0,0)) from by rw[←HW1.out,←Hz.out];exact heap_alloc2_old w _ _)
 have HY:=hid (show w1.heap[z+1]?=some (.cells c2 99 (0,0)) from by rw[←HW1.out,←Hz.out];exact heap_alloc2_new w _ _)
 have HP:=hid (show w1.heap[g]?=some (.cells (wayC W) 101 (0,0)) from (HB.out.block g (blk_lt hp)).trans hp)
 clear hp
 obtain⟨i,Hi⟩:=name_itV W.i
 obtain⟨j,Hj⟩:=name_itV W.j
 obtain⟨l,Hl⟩:=name_itV W.k
 unfold wayC at HP
 rw[Hi.out,Hj.out,Hl.out]at hc HP
 have p0:w1.cell? ⟨g,0,none⟩=some (.int .i64 (i:Nat)):=cell_of_heap HP.out 0
 have p1:w1.cell? ⟨g,1,none⟩=some (.int .i64 (j:Nat)):=cell_of_heap HP.out 1
 have p2:w1.cell? ⟨g,2,none⟩=some (.int .i64 (l:Nat)):=cell_of_heap HP.out 2
 go_enter Tryz.func53,Tryz.ntmps53
 go_upto_region 1 with fail
 rw[HW1.out,Hz.out]
 clear HW1
 go_wp2_with (first
  | ((with_reducible refine at_dst (some 6) ?_);refine ld_arm rfl 99 _ rfl z 0 rfl c1 _ (range_row HX.out) Tryz.underlying99 rfl Q1.out ?_)
  | ((with_reducible refine at_dst (some 7) ?_);refine ld_arm rfl 99 _ rfl (z+1) 0 rfl c2 _ (range_row HY.out) Tryz.underlying99 rfl Q2.out ?_))
 refine (hc.out _ HB.out).mono ?_
 rintro e w2 ⟨rfl,hb⟩
 have HB2:=hid (HB.out.trans (hb.mono HB.out.size))
 clear hb p0 p1 p2
 go_wp2_with fail
 go_ret
 exact⟨rfl,HB2.out⟩
end Go.Proofs.YtefhfadjajcmkaaGreatDoor
