/- The reference's May of triples; CopyTriples: printed by gen_YH.py. -/
import Derived.Test.YtijciakkfpjjbaaGreatDoorPH
import Derived.Test.YtijciakkfpjjbaaGreatDoorP0
import Derived.Deep.DeepCutAuto
namespace Go.Proofs.YtijciakkfpjjbaaGreatDoor
open Go Go.RowKit Go.Maps
open Go.Lib (hid cell_of_heap)
theorem cellT_plain:PlainR 18 (λ(t:Trip) c=>CellT c t):=⟨λh=>h.size,fun {x c} h u hu=>by
 obtain⟨_,ss,hs,rfl⟩:=h
 exact cellsT_one x ss (λq hq=>by obtain⟨A,cp,e⟩:=hs q hq;exact⟨A,0,cp,e⟩) u hu⟩
structure CellV (c:Array Value) (v:Val):Prop where
 key:KeyV v
 ex:∃A cap,c=cellsV v (.slice A 0 cap)
theorem cellV_plain:PlainR 6 (λ(v:Val) c=>CellV c v):=⟨λh=>by obtain⟨_,A,cap,rfl⟩:=h;rfl,fun {x c} h u hu=>by
 obtain⟨_,A,cap,rfl⟩:=h
 have:(cellsV x (.slice A 0 cap)).all (·.oneCell')=true:=by kernel_rfl
 exact Array.all_eq_true_iff_forall_mem.1 this u (by simpa using hu)⟩
theorem SRd.imp {α : Type} {R R':Lies α} {sz:Nat} {w:World} {F F':Nat→Prop} {l:List α} {A:Option Addr} {n:Nat} (h:SRd sz R w F l A n) (hF:∀b,F b→F' b) (hR:∀x c,R w F x c→R' w F' x c):SRd sz R' w F' l A n:=
 ⟨h.1,λhn=>by
  obtain⟨ad,e,hf,hc⟩:=h.2 hn
  refine⟨ad,e,hF _ hf,λi x hx=>?_⟩
  obtain⟨c,h1,h2,h3⟩:=hc i x hx
  exact⟨c,h1,h2,hR x c h3⟩⟩
theorem CellT.trR {c:Array Value} {t:Trip} (h:CellT c t) (w:World) (F:Nat→Prop):TrR w F t c:=by
 obtain⟨hk,ss,hs,rfl⟩:=h
 refine⟨ss,rfl,λn hn=>?_⟩
 obtain⟨A,cap,e⟩:=hs n hn
 rw[e]
 exact scal_rd w F (hk n).list A cap
theorem TrR.cellT {c:Array Value} {t:Trip} {w:World} {F:Nat→Prop} (h:TrR w F t c) (hk:KeyT t):CellT c t:=by
 obtain⟨ss,rfl,hr⟩:=h
 refine⟨hk,ss,λi hi=>?_,rfl⟩
 obtain⟨A,cap,e,_,_⟩:=(hr i hi).inv
 injection e with e
 have:=congrArg (λa:Array Value=>a[5]?) e
 rw[(hk i).list]at this
 exact⟨A,cap,by simpa [cellsV] using this⟩
theorem sizeOf_tr (W:World):(sizeOf (Tryz.prog.elem 22)).run Tryz.prog W = .ok 18 W:=by kernel_rfl
theorem sizeOf_val (W:World):(sizeOf (Tryz.prog.elem 32)).run Tryz.prog W = .ok 6 W:=by kernel_rfl
theorem und_tr:Tryz.prog.underlying 22=some (.slice (Tryz.prog.elem 22)):=by kernel_rfl
theorem und_val:Tryz.prog.underlying 32=some (.slice (Tryz.prog.elem 32)):=by kernel_rfl
theorem infoVs:(Tryz.prog.info? 34).map (λi=>(i.zero,i.size,i.bytes))=some (some (.agg #[.int .i64 0,.bool false,.int .i64 0,.string ⟨#[]⟩,.string ⟨#[]⟩,.slice none 0 0]),6,80):=by kernel_rfl
set_option maxRecDepth 100000 in
set_option maxHeartbeats 8000000 in
theorem refCmpT_any {a b:Trip} {ca cb:Array Value} (ha:CellT ca a) (hb:CellT cb b) (w:World) :
    Calls Tryz.prog 58 #[.agg ca,.agg cb] w (AlIs (wayN 0) a b w):=by
 obtain⟨ka,sa,h1,ea⟩:=ha
 obtain⟨kb,sb,h2,eb⟩:=hb
 have Hca:Eq18 ca a sa:=⟨ea.symm⟩
 have Hcb:Eq18 cb b sb:=⟨eb.symm⟩
 clear ea eb
 obtain⟨z,Hz⟩:=name_itV w.heap.size
 obtain⟨w2,HW2⟩:=name_itV ((w.alloc (.cells ca 41)).alloc (.cells cb 41))
 have HB2:=hid (show Below w.heap.size w w2 from by rw[←HW2.out];exact two_new w _ _)
 have HXA:=hid (show w2.heap[z]?=some (.cells ca 41 (0,0)) from by rw[←HW2.out,←Hz.out];exact heap_alloc2_old w _ _)
 have HXB:=hid (show w2.heap[z+1]?=some (.cells cb 41 (0,0)) from by rw[←HW2.out,←Hz.out];exact heap_alloc2_new w _ _)
 have HPOST:=hid (show ∀W,Below w2.heap.size w2 W→Below w.heap.size w W from λW hb=>HB2.out.trans (hb.mono HB2.out.size))
 obtain⟨u0,Hu0⟩:=name6 (a.get 0) (sa 0)
 obtain⟨v0,Hv0⟩:=name6 (b.get 0) (sb 0)
 have IU0:=hid (infoV6.trans (congrArg some Hu0.size.symm))
 have IV0:=hid (infoV6.trans (congrArg some Hv0.size.symm))
 have LU0:=hid (λ(W:World) (hb:Below w2.heap.size w2 W) i (hi:i<u0.size)=>(show W.cell? ((⟨z,0,none⟩:Addr).add i)=u0[i]? from by
  rw[Addr.add_mid,cell_of_row W z (0+i) ca _ _ ((hb.block z (blk_lt HXA.out)).trans HXA.out),←Hu0.out,←Hca.out]
  exact cellsT_part a sa 0 (by omega) i (by rwa [Hu0.size]at hi)))
 have LV0:=hid (λ(W:World) (hb:Below w2.heap.size w2 W) i (hi:i<v0.size)=>(show W.cell? ((⟨z+1,0,none⟩:Addr).add i)=v0[i]? from by
  rw[Addr.add_mid,cell_of_row W (z+1) (0+i) cb _ _ ((hb.block (z+1) (blk_lt HXB.out)).trans HXB.out),←Hv0.out,←Hcb.out]
  exact cellsT_part b sb 0 (by omega) i (by rwa [Hv0.size]at hi)))
 obtain⟨t0,Ht0⟩:=name_itV (ordV (a.get 0) (b.get 0))
 have hs0:=λ(W:World)=>refOrder_any (a.get 0) (b.get 0) (sa 0) (sb 0) W (ka 0).k5 (ka 0).fit (kb 0).fit
 unfold OrdIs at hs0
 rw[Hu0.out,Hv0.out,Ht0.out]at hs0
 have HS0:=hid hs0
 clear hs0
 obtain⟨u1,Hu1⟩:=name6 (a.get 1) (sa 1)
 obtain⟨v1,Hv1⟩:=name6 (b.get 1) (sb 1)
 have IU1:=hid (infoV6.trans (congrArg some Hu1.size.symm))
 have IV1:=hid (infoV6.trans (congrArg some Hv1.size.symm))
 have LU1:=hid (λ(W:World) (hb:Below w2.heap.size w2 W) i (hi:i<u1.size)=>(show W.cell? ((⟨z,6,none⟩:Addr).add i)=u1[i]? from by
  rw[Addr.add_mid,cell_of_row W z (6+i) ca _ _ ((hb.block z (blk_lt HXA.out)).trans HXA.out),←Hu1.out,←Hca.out]
  exact cellsT_part a sa 1 (by omega) i (by rwa [Hu1.size]at hi)))
 have LV1:=hid (λ(W:World) (hb:Below w2.heap.size w2 W) i (hi:i<v1.size)=>(show W.cell? ((⟨z+1,6,none⟩:Addr).add i)=v1[i]? from by
  rw[Addr.add_mid,cell_of_row W (z+1) (6+i) cb _ _ ((hb.block (z+1) (blk_lt HXB.out)).trans HXB.out),←Hv1.out,←Hcb.out]
  exact cellsT_part b sb 1 (by omega) i (by rwa [Hv1.size]at hi)))
 obtain⟨t1,Ht1⟩:=name_itV (ordV (a.get 1) (b.get 1))
 have hs1:=λ(W:World)=>refOrder_any (a.get 1) (b.get 1) (sa 1) (sb 1) W (ka 1).k5 (ka 1).fit (kb 1).fit
 unfold OrdIs at hs1
 rw[Hu1.out,Hv1.out,Ht1.out]at hs1
 have HS1:=hid hs1
 clear hs1
 obtain⟨u2,Hu2⟩:=name6 (a.get 2) (sa 2)
 obtain⟨v2,Hv2⟩:=name6 (b.get 2) (sb 2)
 have IU2:=hid (infoV6.trans (congrArg some Hu2.size.symm))
 have IV2:=hid (infoV6.trans (congrArg some Hv2.size.symm))
 have LU2:=hid (λ(W:World) (hb:Below w2.heap.size w2 W) i (hi:i<u2.size)=>(show W.cell? ((⟨z,12,none⟩:Addr).add i)=u2[i]? from by
  rw[Addr.add_mid,cell_of_row W z (12+i) ca _ _ ((hb.block z (blk_lt HXA.out)).trans HXA.out),←Hu2.out,←Hca.out]
  exact cellsT_part a sa 2 (by omega) i (by rwa [Hu2.size]at hi)))
 have LV2:=hid (λ(W:World) (hb:Below w2.heap.size w2 W) i (hi:i<v2.size)=>(show W.cell? ((⟨z+1,12,none⟩:Addr).add i)=v2[i]? from by
  rw[Addr.add_mid,cell_of_row W (z+1) (12+i) cb _ _ ((hb.block (z+1) (blk_lt HXB.out)).trans HXB.out),←Hv2.out,←Hcb.out]
  exact cellsT_part b sb 2 (by omega) i (by rwa [Hv2.size]at hi)))
 obtain⟨t2,Ht2⟩:=name_itV (ordV (a.get 2) (b.get 2))
 have hs2:=λ(W:World)=>refOrder_any (a.get 2) (b.get 2) (sa 2) (sb 2) W (ka 2).k5 (ka 2).fit (kb 2).fit
 unfold OrdIs at hs2
 rw[Hu2.out,Hv2.out,Ht2.out]at hs2
 have HS2:=hid hs2
 clear hs2
 obtain⟨r,Hr⟩:=name_itV (along (wayN 0) a b)
 have HR:=hid (show r=thenC t0 (thenC t1 t2) from by rw[←Hr.out,←Ht0.out,←Ht1.out,←Ht2.out];rfl)
 unfold AlIs
 rw[Hr.out]
 clear h1 h2 ka kb
 go_enter Tryz.func58,Tryz.ntmps58
 go_upto_region 1 with fail
 rw[HW2.out,Hz.out]
 clear HW2
 go_wp2_with (first
  | ((with_reducible refine at_dst (some 7) ?_);refine ld_armG (by rfl) 34 _ rfl rfl u0 _ (LU0.out _ (Below.refl _ _)) Tryz.underlying34 rfl IU0.out ?_)
  | ((with_reducible refine at_dst (some 9) ?_);refine ld_armG (by rfl) 34 _ rfl rfl v0 _ (LV0.out _ (Below.refl _ _)) Tryz.underlying34 rfl IV0.out ?_))
 refine (HS0.out _).mono ?_
 rintro e x0 ⟨rfl,hb⟩
 have HX0:=hid (show Below w2.heap.size w2 x0 from hb)
 clear hb
 by_cases hz0:t0=0
 ·subst hz0
  go_wp2_with (first
   | ((with_reducible refine at_dst (some 14) ?_);refine ld_armG (by rfl) 34 _ rfl rfl u1 _ (LU1.out _ HX0.out) Tryz.underlying34 rfl IU1.out ?_)
   | ((with_reducible refine at_dst (some 16) ?_);refine ld_armG (by rfl) 34 _ rfl rfl v1 _ (LV1.out _ HX0.out) Tryz.underlying34 rfl IV1.out ?_))
  refine (HS1.out _).mono ?_
  rintro e x1 ⟨rfl,hb⟩
  have HX1:=hid (show Below w2.heap.size w2 x1 from HX0.out.trans (hb.mono HX0.out.size))
  clear hb
  by_cases hz1:t1=0
  ·subst hz1
   go_wp2_with (first
    | ((with_reducible refine at_dst (some 21) ?_);refine ld_armG (by rfl) 34 _ rfl rfl u2 _ (LU2.out _ HX1.out) Tryz.underlying34 rfl IU2.out ?_)
    | ((with_reducible refine at_dst (some 23) ?_);refine ld_armG (by rfl) 34 _ rfl rfl v2 _ (LV2.out _ HX1.out) Tryz.underlying34 rfl IV2.out ?_))
   refine (HS2.out _).mono ?_
   rintro e x2 ⟨rfl,hb⟩
   have HX2:=hid (show Below w2.heap.size w2 x2 from HX1.out.trans (hb.mono HX1.out.size))
   clear hb
   have HE:=hid (show t2=r from by rw[HR.out];rfl)
   go_wp2_with fail
   go_ret
   exact⟨congrArg (λx=>Ending.returned (Value.int .i64 x)) HE.out,HPOST.out _ HX2.out⟩
  ·have HE:=hid (show t1=r from by rw[HR.out,show thenC (0:Int) (thenC t1 t2)=thenC t1 t2 from rfl];unfold thenC;rw[if_neg hz1])
   go_wp2_with fail
   go_ret
   exact⟨congrArg (λx=>Ending.returned (Value.int .i64 x)) HE.out,HPOST.out _ HX1.out⟩
 ·have HE:=hid (show t0=r from by rw[HR.out];unfold thenC;rw[if_neg hz0])
  go_wp2_with fail
  go_ret
  exact⟨congrArg (λx=>Ending.returned (Value.int .i64 x)) HE.out,HPOST.out _ HX0.out⟩
end Go.Proofs.YtijciakkfpjjbaaGreatDoor
namespace Go.Proofs.YtijciakkfpjjbaaGreatDoor
open Go Go.RowKit
open Go.Lib (hid cell_of_heap)
def CopyIs (l:List Val) (w:World) (e:Ending) (w':World):Prop:=∃s,e = .returned s∧Below w.heap.size w w'∧LOwn w' (λb=>w.heap.size≤b∧b<w'.heap.size) l s
def CopyVIs (v:Val) (w:World) (e:Ending) (w':World):Prop:=∃s,e = .returned (.agg (cellsV v s))∧Below w.heap.size w w'∧LOwn w' (λb=>w.heap.size≤b∧b<w'.heap.size) v.list s
set_option maxRecDepth 100000 in
set_option maxHeartbeats 1000000 in
theorem copy_step (v:Val) {F:Nat→Prop} (A:Option Addr) (cap:Nat) (w:World) (hF:∀g,F g→g<w.heap.size) (hA:LRd w F v.list A v.list.length)
    (hrow:∀w',LRd w' F v.list A v.list.length→(∀g,F g→g<w'.heap.size)→Calls Tryz.prog 88 #[.slice A v.list.length cap] w' (CopyIs v.list w')) :
    Calls Tryz.prog 66 #[.agg (cellsV v (.slice A v.list.length cap))] w (CopyVIs v w):=by
 obtain⟨k,t,n,s,x,l⟩:=v
 unfold cellsV
 simp only[Val.kind,Val.truth,Val.num,Val.text,Val.extra,Val.list]at hA hrow ⊢
 have HN:=hid (two_new w (.cells #[.int .i64 k,.bool t,.int .i64 n,.string s,.string x,.slice A l.length cap] 34) (.cells #[.int .i64 0,.bool false,.int .i64 0,.string ⟨#[]⟩,.string ⟨#[]⟩,.slice none 0 0] 34))
 have hs2:((w.alloc (.cells #[.int .i64 k,.bool t,.int .i64 n,.string s,.string x,.slice A l.length cap] 34)).alloc (.cells #[.int .i64 0,.bool false,.int .i64 0,.string ⟨#[]⟩,.string ⟨#[]⟩,.slice none 0 0] 34)).heap.size=w.heap.size+2:=by simp
 have hb1:((w.alloc (.cells #[.int .i64 k,.bool t,.int .i64 n,.string s,.string x,.slice A l.length cap] 34)).alloc (.cells #[.int .i64 0,.bool false,.int .i64 0,.string ⟨#[]⟩,.string ⟨#[]⟩,.slice none 0 0] 34)).heap[w.heap.size]?=some (.cells #[.int .i64 k,.bool t,.int .i64 n,.string s,.string x,.slice A l.length cap] 34 (0,0)):=by
  rw[Below.heap_alloc _ _ _ (by simp)]
  exact heap_alloc_new w _
 have hb2:((w.alloc (.cells #[.int .i64 k,.bool t,.int .i64 n,.string s,.string x,.slice A l.length cap] 34)).alloc (.cells #[.int .i64 0,.bool false,.int .i64 0,.string ⟨#[]⟩,.string ⟨#[]⟩,.slice none 0 0] 34)).heap[w.heap.size+1]?=some (.cells #[.int .i64 0,.bool false,.int .i64 0,.string ⟨#[]⟩,.string ⟨#[]⟩,.slice none 0 0] 34 (0,0)):=by
  have:=heap_alloc_new (w.alloc (.cells #[.int .i64 k,.bool t,.int .i64 n,.string s,.string x,.slice A l.length cap] 34)) (.cells #[.int .i64 0,.bool false,.int .i64 0,.string ⟨#[]⟩,.string ⟨#[]⟩,.slice none 0 0] 34)
  simpa using this
 obtain⟨z,HZ⟩:=name_itV w.heap.size
 obtain⟨W2,HW2⟩:=name_itV ((w.alloc (.cells #[.int .i64 k,.bool t,.int .i64 n,.string s,.string x,.slice A l.length cap] 34)).alloc (.cells #[.int .i64 0,.bool false,.int .i64 0,.string ⟨#[]⟩,.string ⟨#[]⟩,.slice none 0 0] 34))
 rw[HW2.out]at HN hs2 hb1 hb2
 have HC:=hid (hrow W2 (hA.under HN.out hF) (λg hg=>by have:=hF g hg;have:=HN.out.size;omega))
 rw[HZ.out]at HN hs2 hb1 hb2
 have HB1:=hid hb1
 have HB2:=hid hb2
 have HS2:=hid hs2
 have c5:W2.cell? ⟨z,5,none⟩=some (.slice A l.length cap):=cell_of_heap hb1 5
 clear hA hrow hF hb1 hb2 hs2
 go_enter Tryz.func66,Tryz.ntmps66
 go_upto_region 1 with fail
 rw[HW2.out,HZ.out]
 go_wp2_with fail
 refine HC.out.mono ?_
 rintro e w5 ⟨s',rfl,hb5,hl5⟩
 obtain⟨A',cp',rfl⟩:=hl5.form
 have HL5:=hid hl5
 have HB5:=hid hb5
 have hz5:z+2≤w5.heap.size:=by have:=hb5.size;have:=HS2.out;omega
 have HB15:=hid ((hb5.block z (by have:=HS2.out;omega)).trans HB1.out)
 have HB25:=hid ((hb5.block (z+1) (by have:=HS2.out;omega)).trans HB2.out)
 have d0:w5.cell? ⟨z,0,none⟩=some (.int .i64 k):=cell_of_heap HB15.out 0
 have d5:w5.cell? ⟨z,5,none⟩=some (.slice A l.length cap):=cell_of_heap HB15.out 5
 have f5:w5.frozen? ⟨z,5,none⟩=false:=Lib.frozen_of_heap HB15.out 5
 have hb6:=heap_setCell_same w5 z 5 _ 34 (.slice A' l.length cp') HB15.out
 have hb62:(w5.setCell ⟨z,5,none⟩ (.slice A' l.length cp')).heap[z+1]?=_:=(Below.heap_setCell w5 ⟨z,5,none⟩ (.slice A' l.length cp') (z+1) (by simp)).trans HB25.out
 have ht6:=(Turn.refl (λb=>b=z∨b=z+1) w5).setCell (p:=⟨z,5,none⟩) (.inr (.inl rfl)) (.slice A' l.length cp')
 obtain⟨W6,HW6⟩:=name_itV (w5.setCell ⟨z,5,none⟩ (.slice A' l.length cp'))
 rw[HW6.out]at hb6 hb62 ht6
 have g0:W6.cell? ⟨z,0,none⟩=some (.int .i64 k):=cell_of_heap hb6 0
 have g1:W6.cell? ⟨z,1,none⟩=some (.bool t):=cell_of_heap hb6 1
 have g2:W6.cell? ⟨z,2,none⟩=some (.int .i64 n):=cell_of_heap hb6 2
 have g3:W6.cell? ⟨z,3,none⟩=some (.string s):=cell_of_heap hb6 3
 have g4:W6.cell? ⟨z,4,none⟩=some (.string x):=cell_of_heap hb6 4
 have g5:W6.cell? ⟨z,5,none⟩=some (.slice A' l.length cp'):=cell_of_heap hb6 5
 have r0:W6.cell? ⟨z+1,0,none⟩=some (.int .i64 0):=cell_of_heap hb62 0
 have y0:W6.frozen? ⟨z+1,0,none⟩=false:=Lib.frozen_of_heap hb62 0
 have r1:W6.cell? ⟨z+1,1,none⟩=some (.bool false):=cell_of_heap hb62 1
 have y1:W6.frozen? ⟨z+1,1,none⟩=false:=Lib.frozen_of_heap hb62 1
 have r2:W6.cell? ⟨z+1,2,none⟩=some (.int .i64 0):=cell_of_heap hb62 2
 have y2:W6.frozen? ⟨z+1,2,none⟩=false:=Lib.frozen_of_heap hb62 2
 have r3:W6.cell? ⟨z+1,3,none⟩=some (.string ⟨#[]⟩):=cell_of_heap hb62 3
 have y3:W6.frozen? ⟨z+1,3,none⟩=false:=Lib.frozen_of_heap hb62 3
 have r4:W6.cell? ⟨z+1,4,none⟩=some (.string ⟨#[]⟩):=cell_of_heap hb62 4
 have y4:W6.frozen? ⟨z+1,4,none⟩=false:=Lib.frozen_of_heap hb62 4
 have r5:W6.cell? ⟨z+1,5,none⟩=some (.slice none 0 0):=cell_of_heap hb62 5
 have y5:W6.frozen? ⟨z+1,5,none⟩=false:=Lib.frozen_of_heap hb62 5
 have HB6:=hid hb6
 have HB62:=hid hb62
 have HT6:=hid ht6
 clear hb5 hl5 hb6 hb62 ht6 c5
 go_upto_region 2 with fail
 rw[HW6.out]
 go_wp2_with fail
 have hz9:((((((W6.setCell ⟨z+1,0,none⟩ (.int .i64 k)).setCell ⟨z+1,1,none⟩ (.bool t)).setCell ⟨z+1,2,none⟩ (.int .i64 n)).setCell ⟨z+1,3,none⟩ (.string s)).setCell ⟨z+1,4,none⟩ (.string x)).setCell ⟨z+1,5,none⟩ (.slice A' l.length cp')).heap[z+1]?=some (.cells #[.int .i64 k,.bool t,.int .i64 n,.string s,.string x,.slice A' l.length cp'] 34 (0,0)):=(heap_setCell_same _ (z+1) 5 _ 34 _ (heap_setCell_same _ (z+1) 4 _ 34 _ (heap_setCell_same _ (z+1) 3 _ 34 _ (heap_setCell_same _ (z+1) 2 _ 34 _ (heap_setCell_same _ (z+1) 1 _ 34 _ (heap_setCell_same _ (z+1) 0 _ 34 _ HB62.out))))))
 have ht9:Turn (λb=>b=z∨b=z+1) w5 ((((((W6.setCell ⟨z+1,0,none⟩ (.int .i64 k)).setCell ⟨z+1,1,none⟩ (.bool t)).setCell ⟨z+1,2,none⟩ (.int .i64 n)).setCell ⟨z+1,3,none⟩ (.string s)).setCell ⟨z+1,4,none⟩ (.string x)).setCell ⟨z+1,5,none⟩ (.slice A' l.length cp')):=((((((HT6.out.setCell (p:=⟨z+1,0,none⟩) (.inr (.inr rfl)) _).setCell (p:=⟨z+1,1,none⟩) (.inr (.inr rfl)) _).setCell (p:=⟨z+1,2,none⟩) (.inr (.inr rfl)) _).setCell (p:=⟨z+1,3,none⟩) (.inr (.inr rfl)) _).setCell (p:=⟨z+1,4,none⟩) (.inr (.inr rfl)) _).setCell (p:=⟨z+1,5,none⟩) (.inr (.inr rfl)) _)
 obtain⟨W9,HW9⟩:=name_itV ((((((W6.setCell ⟨z+1,0,none⟩ (.int .i64 k)).setCell ⟨z+1,1,none⟩ (.bool t)).setCell ⟨z+1,2,none⟩ (.int .i64 n)).setCell ⟨z+1,3,none⟩ (.string s)).setCell ⟨z+1,4,none⟩ (.string x)).setCell ⟨z+1,5,none⟩ (.slice A' l.length cp'))
 rw[HW9.out]at hz9 ht9 ⊢
 have q0:W9.cell? ⟨z+1,0,none⟩=some (.int .i64 k):=cell_of_heap hz9 0
 have q1:W9.cell? ⟨z+1,1,none⟩=some (.bool t):=cell_of_heap hz9 1
 have q2:W9.cell? ⟨z+1,2,none⟩=some (.int .i64 n):=cell_of_heap hz9 2
 have q3:W9.cell? ⟨z+1,3,none⟩=some (.string s):=cell_of_heap hz9 3
 have q4:W9.cell? ⟨z+1,4,none⟩=some (.string x):=cell_of_heap hz9 4
 have q5:W9.cell? ⟨z+1,5,none⟩=some (.slice A' l.length cp'):=cell_of_heap hz9 5
 have HT9:=hid ht9
 clear ht9 hz9 r0 r1 r2 r3 r4 r5 y0 y1 y2 y3 y4 y5 g0 g1 g2 g3 g4 g5 d0 d5 f5
 go_wp2_with fail
 refine bodyPost_ret (v:=.agg #[.int .i64 k,.bool t,.int .i64 n,.string s,.string x,.slice A' l.length cp']) (by simp[results,Tryz.results66,go_sem,q0,q1,q2,q3,q4,q5]) rfl ⟨.slice A' l.length cp',rfl,?_,?_⟩
 ·rw[HZ.out]
  exact (HN.out.trans (HB5.out.mono (by have:=HS2.out;omega))).trans (HT9.out.below (λi _ h=>by omega) (by omega))
 ·have h1:=HL5.out.turn HT9.out (λb hb h=>by have:=HS2.out;omega)
  refine h1.mono (λb hb=>⟨?_,?_⟩)
  ·have:=HS2.out;have:=HZ.out;omega
  ·have:=HT9.out.size;omega
theorem infoVal:(Tryz.prog.info? 34).map (λi=>(i.zero,i.size,i.bytes))=some (some (.agg #[.int .i64 0,.bool false,.int .i64 0,.string ⟨#[]⟩,.string ⟨#[]⟩,.slice none 0 0]),6,80):=by kernel_rfl
theorem one_val (x:Val) (B:Option Addr) (n c:Nat):∀u∈(cellsV x (.slice B n c)).toList,u.oneCell'=true:=by
 intro u hu
 simp[cellsV]at hu
 rcases hu with h | h | h | h | h | h<;>subst h<;>rfl
set_option maxRecDepth 100000 in
set_option maxHeartbeats 1000000 in
theorem copy_any (N:Nat):∀(l:List Val) (_:sizeL l<N) (_:sizeL l≤100000000) (F:Nat→Prop) (A:Option Addr) (n cap:Nat) (w:World) (_:∀g,F g→g<w.heap.size) (_:LRd w F l A n),
    Calls Tryz.prog 88 #[.slice A n cap] w (CopyIs l w):=by
 induction N with
 | zero=>exact λ_ h=>absurd h (Nat.not_lt_zero _)
 | succ N ih=>
  intro l hN hs F A n cap w hF hl
  have HL:=hid hl
  have HF:=hid hF
  have IH:=hid ih
  have hl1:n≤l.length:=Nat.le_of_eq hl.1
  have hl2:l.length≤n:=Nat.le_of_eq hl.1.symm
  have hll:=len_le_size l
  clear hl hF ih
  go_enter Tryz.func88,Tryz.ntmps88
  go_wp2_with fail
  go_loopw [3,4] (λs3 s4 wr=>∃k:Nat,k≤n∧s4 = .int .i64 (k:Nat)∧Below w.heap.size w wr∧LOwn wr (λb=>w.heap.size≤b∧b<wr.heap.size) (l.take k) s3) (λ_ s4 _=>n-(intOf s4).toNat)
  case atStart=>exact⟨0,by omega,rfl,Below.refl _ _,LOwn.nil _ _⟩
  case round=>
   obtain⟨k,hk,rfl,hbz,hown⟩:=hrel
   have HBZ:=hid hbz
   have HOWN:=hid hown
   have HL2:=hid (HL.out.under hbz HF.out)
   have hws:w.heap.size≤wr.heap.size:=hbz.size
   have htkl:(l.take k).length=k:=by simp;omega
   have HTKL:=hid htkl
   obtain⟨A3,c3,h3⟩:=hown.form
   rw[htkl]at h3
   subst h3
   clear hbz hown htkl
   by_cases hlt:k<n
   ·obtain⟨x,hx⟩:∃x,l[k]?=some x:=⟨l[k]'(by omega),List.getElem?_eq_getElem _⟩
    have hxm:=sizeV_mem (List.mem_of_getElem? hx)
    have hxl:=sizeL_list x
    obtain⟨ad,sx,rfl,_,⟨Bx,cx,rfl,_,hlx⟩,_,d0,d1,d2,d3,d4,d5⟩:=HL2.out.cellsAt hx
    have HC:=hid (copy_step x Bx cx wr (F:=F) (λg hg=>Nat.lt_of_lt_of_le (HF.out g hg) hws) hlx (λw' h1 h2=>IH.out x.list (by omega) (by omega) F Bx _ cx w' h2 h1))
    have HX:=hid hx
    have e1:(0:Int)≤k:=by omega
    have e2:(k:Int)<n:=by omega
    clear hx hxm hxl hlx
    unfold cellsV at HC
    obtain⟨lx,HLX⟩:=name_itV x.list.length
    rw[HLX.out]at d5 HC
    go_wp2_with fail
    refine HC.out.mono ?_
    rintro e w5 ⟨s',rfl,hb5,hl5⟩
    obtain⟨A',cp',rfl⟩:=hl5.form
    unfold cellsV
    rw[HLX.out]
    have HL5:=hid hl5
    have HB5:=hid hb5
    obtain⟨cs,Fs,hrow,h6,hFw,hFs,hdis,hr⟩:=HOWN.out.turn (Turn.of_below hb5) (λb hb h=>by omega)
    rw[HTKL.out]at hrow
    have HROW:=hid hrow
    have hs5:wr.heap.size≤w5.heap.size:=hb5.size
    have HREST:=hid (And.intro h6 (And.intro hFw (And.intro hFs (And.intro hdis hr))))
    rw[HLX.out]at HL5
    clear hb5 hl5 hrow h6 hFw hFs hdis hr
    go_wp2_with (at_builtin;refine app_new rfl _ _ 32 rfl 0 34 (.agg #[.int .i64 0,.bool false,.int .i64 0,.string ⟨#[]⟩,.string ⟨#[]⟩,.slice none 0 0]) 6 80 Tryz.underlying32 infoVal rfl (by decide) _ _ _ rfl HROW.out (Nat.zero_le _) _ 1 1 rfl rfl (one_val x A' lx cp') (by omega) (by omega) (by decide) ?_)
    intro g4 c4 w6 ho6 hg6 hl6
    have HO6:=hid ho6
    have HG6:=hid (show w5.grownBy w6 (Value.slice A3 k c3).ownBlock from hg6)
    have HL6:=hid (show (Value.slice A3 k c3).ownBlock=some g4∨w5.heap.size≤g4 from hl6)
    clear ho6 hg6 hl6
    go_wp2_with fail
    go_roundw
    case rel=>
     obtain⟨h6,hFw,hFs,hdis,hr⟩:=HREST.out
     have hxl5:=HL5.out
     rw[←HLX.out]at hxl5
     have ho6:=HO6.out
     have hg4:g4<w6.heap.size:=(ho6.lt g4 rfl).2
     have hs6:w5.heap.size≤w6.heap.size:=HG6.out.size
     have hown4:∀b,some b=(Value.slice A3 k c3).ownBlock→w.heap.size≤b:=λb hb=>(hFw b hb.symm).1
     have hsn:=own_snoc (w5:=w5) (w6:=w6) (F:=λb=>w.heap.size≤b∧b<wr.heap.size) (G:=λb=>wr.heap.size≤b∧b<w5.heap.size) (l:=l.take k) (x:=x) (s:=.slice A3 k c3) (sx:=.slice A' x.list.length cp') (g4:=g4) (c4:=c4) (cs:=cs) (Fs:=Fs) h6 hFw hFs hdis hr hxl5
      (λb hb h=>by obtain⟨_,h1⟩:=hb;obtain⟨h2,_⟩:=h;omega) (λb hb=>by obtain⟨_,h1⟩:=hb;omega) (λb hb=>hb.2) (by
      rw[HTKL.out]
      unfold cellsV
      rw[HLX.out]
      exact ho6) HG6.out HL6.out
     rw[HTKL.out]at hsn
     refine⟨k+1,by omega,by go_num,(HBZ.out.trans (HB5.out.mono hws)).trans ((Turn.of_grown HG6.out).below (λb _ hb=>hown4 b hb) (by omega)),?_⟩
     rw[take_oneMore HX.out]
     refine hsn.mono (λb hb=>?_)
     rcases hb with hb | hb | hb
     ·exact⟨hb.1,by omega⟩
     ·exact⟨by omega,by omega⟩
     ·subst hb
      refine⟨?_,hg4⟩
      rcases HL6.out with h | h
      ·exact hown4 b h.symm
      ·omega
    case measure=>simp[intOf];omega
   ·have hke:k=n:=by omega
    subst hke
    have htk:l.take k=l:=List.take_of_length_le (by omega)
    have HTK:=hid htk
    clear htk
    go_wp2_with fail
    go_ret
    exact⟨_,rfl,HBZ.out,by have h:=HOWN.out;rw[HTK.out]at h;exact h⟩
end Go.Proofs.YtijciakkfpjjbaaGreatDoor
namespace Go.Proofs.YtijciakkfpjjbaaGreatDoor
open Go Go.RowKit Go.Maps
open Go.Lib (hid cell_of_heap)
theorem insR_len {α : Type} (o:α → α → Int) (l:List α) (v:α):(insR o l v).length≤l.length+1:=by
 unfold insR
 simp only
 split
 ·omega
 ·rw[List.length_append,List.length_cons,List.length_take,List.length_drop]
  omega
theorem loadR_len {α : Type} (o:α → α → Int) (l:List α):(loadR o l).length≤l.length:=by
 unfold loadR
 suffices h:∀(l a:List α),(l.foldl (insR o) a).length≤a.length+l.length by
  have:=h l []
  simpa using this
 intro l
 induction l with
 | nil=>intro a;simp
 | cons x r ih=>
  intro a
  rw[List.foldl_cons]
  have h1:=ih (insR o a x)
  have h2:=insR_len o a x
  rw[List.length_cons]
  omega
def WkS (K:List Trip) (w:Way) (c:CurA) (wt:Trip) (G:List Trip) (dn:Bool) (st k:Nat):Prop:=
 (K.length=0∧c=⟨[],false⟩∧dn=true∧G=[]∧st=0∧k=500)∨(∃m d,dn=true∧WkA K w m d c wt G∧st≤posA m d∧k+posA m d=500)∨(∃m d,dn=false∧WkB K w m d c wt G∧st≤posB m d∧k+posB m d=500)
section
variable {T K:List Trip} {w:Way} {m d st k:Nat} {c:CurA} {wt:Trip} {G:List Trip}
theorem WkS.start (wt:Trip) (K:List Trip) (w:Way):WkS K w ⟨[],false⟩ wt [] true 0 500:=by
 rcases Nat.eq_zero_or_pos K.length with h | h
 ·exact .inl ⟨h,rfl,rfl,rfl,rfl,rfl⟩
 ·exact .inr (.inl ⟨0,0,rfl,WkA.start h wt,Nat.zero_le _,rfl⟩)
end
structure WkM (F:Nat→Prop) (w0:World) (q zw j:Nat) (T:List Trip) (c:CurA) (wt:Trip) (sw:Nat→Value) (G:List Trip) (S:Value) (wx:World):Prop where
 b:Below w0.heap.size w0 wx
 cur:CurRd F wx q j T c
 way:wx.heap[zw]?=some (.cells (cellsT wt sw) 35 (0,0))
 own:SOwn 41 18 TrS wx (λb=>zw<b∧b<wx.heap.size) G S
 sl:∀i,i<3→∃A cap,sw i = .slice A 0 cap
 q0:w0.heap.size≤q
 qz:q<zw
 fz:∀b,F b→b<w0.heap.size
section
variable {F:Nat→Prop} {w0 wx w':World} {q zw j:Nat} {T:List Trip} {c c':CurA} {wt:Trip} {sw:Nat→Value} {G:List Trip} {S:Value}
theorem WkM.on (h:WkM F w0 q zw j T c wt sw G S wx) (hb:Below wx.heap.size wx w'):WkM F w0 q zw j T c wt sw G S w':=
 ⟨h.b.trans (hb.mono h.b.size),h.cur.on hb,(hb.block zw (blk_lt h.way)).trans h.way,(h.own.turn TrS.good (Turn.of_below hb) (λb hb=>hb.2) (λb hb=>λe=>by have e:wx.heap.size≤b:=e;have:=hb.2;omega)).mono TrS.good λb h1=>⟨h1.1,Nat.lt_of_lt_of_le h1.2 hb.size⟩,h.sl,h.q0,h.qz,h.fz⟩
theorem WkM.drew (h:WkM F w0 q zw j T c wt sw G S wx):WkM F w0 q zw j T c wt sw G S wx.drew:=h.on (Below.refl _ _).drew
theorem WkM.more {g cap n:Nat} {t:Trip} (h:WkM F w0 q zw j T c wt sw G S wx) (hg:wx.grownBy w' S.ownBlock) (hl:S.ownBlock=some g∨wx.heap.size≤g) (hgw:g<w'.heap.size)
    (ho:SOwn 41 18 TrS w' (λb=>(zw<b∧b<wx.heap.size)∨b=g) (G++[t]) (.slice (some ⟨g,0,none⟩) n cap)):WkM F w0 q zw j T c wt sw (G++[t]) (.slice (some ⟨g,0,none⟩) n cap) w':=by
 have hB:∀b,S.ownBlock=some b→zw<b∧b<wx.heap.size:=λb hb=>by
  obtain⟨_,_,_,hF,_⟩:=h.own
  exact hF b hb
 have ht:=Turn.of_grown hg
 refine⟨below_turn h.b ht (λb hb=>by have:=hB b hb.symm;have:=h.q0;have:=h.qz;omega),h.cur.turn ht (λb hb e=>by have:=hB b e.symm;have:=h.fz b hb;have:=h.q0;have:=h.qz;omega) (λe=>by have:=hB q e.symm;have:=h.qz;omega),ht.heap h.way (λe=>by have:=hB zw e.symm;omega),ho.mono TrS.good λb hb=>?_,h.sl,h.q0,h.qz,h.fz⟩
 rcases hb with hb | rfl
 ·exact⟨hb.1,Nat.lt_of_lt_of_le hb.2 hg.size⟩
 ·refine⟨?_,hgw⟩
  rcases hl with h1 | h1
  ·exact (hB _ h1).1
  ·have:=blk_lt h.way
   omega
end
def DepIs (n:Nat) (w:World) (e:Ending) (w':World):Prop:=e = .returned (.int .i64 (n:Nat))∧w=w'
theorem dep_any {F:Nat→Prop} {q j n:Nat} {T:List Trip} {c:CurA} {w:World} (h:CurRd F w q j T c) (hn:c.way.length=n) :
    Calls Tryz.prog 11 #[.pointer (some ⟨q,0,none⟩)] w (DepIs n w):=by
 have h1:=depth_any h
 rw[hn]at h1
 exact h1.mono λe w' h=>⟨h.1,h.2.symm⟩
theorem wp_bsL {op:Oper} {a:Act} {K:Act→World→Prop} {Q:Exit→Act→World→Prop} {w:World} (x:Operand) (ho:op.op = .buildSlice 22 1 #[(0,x)]) {c:Array Value} (hx:a.eval x = .agg c) (hc:c.size=18) (h:K (a.put op.dst (.slice (some ⟨w.heap.size,0,none⟩) 1 1)) (w.alloc (.cells c 41))):op.wp Tryz.prog a w K Q:=by
 unfold Oper.wp execOp
 simp only[ho,List.map_toArray,List.map_cons,List.map_nil,hx,Sem.run_bind,Sem.run_pure,bs1_run c hc w,Result.andThen_ok]
 exact h
set_option maxRecDepth 100000 in
set_option maxHeartbeats 16000000 in
theorem refMayT_any (t:Trip) (ok:OkT t) (F:Nat→Prop) (ss:Nat→Value) (w:World) (hF:∀g,F g→g<w.heap.size) (hv:∀n,n<3→VRd w F (t.get n) (.agg (cellsV (t.get n) (ss n)))) :
    Calls Tryz.prog 32 #[.agg (cellsT t ss)] w (ToldB (mayT t) w):=by
 obtain⟨c,Hc⟩:=name18 t ss
 rw[Hc.out]
 obtain⟨z,Hz⟩:=name_itV w.heap.size
 obtain⟨w2,HW2⟩:=name_itV (w.alloc (.cells c 41))
 have HB2:=hid (show Below w.heap.size w w2 from by rw[←HW2.out];exact (Below.refl _ _).alloc (Nat.le_refl _) _)
 have HX:=hid (show w2.heap[z]?=some (.cells c 41 (0,0)) from by rw[←HW2.out,←Hz.out];exact heap_alloc_new w _)
 have HPOST:=hid (show ∀W,Below w2.heap.size w2 W→Below w.heap.size w W from λW hb=>HB2.out.trans (hb.mono HB2.out.size))
 obtain⟨u0,Hu0⟩:=name6 (t.get 0) (ss 0)
 have IU0:=hid (infoV6.trans (congrArg some Hu0.size.symm))
 have LU0:=hid (λ(W:World) (hb:Below w2.heap.size w2 W) i (hi:i<u0.size)=>(show W.cell? ((⟨z,0,none⟩:Addr).add i)=u0[i]? from by
  rw[Addr.add_mid,cell_of_row W z (0+i) c _ _ ((hb.block z (blk_lt HX.out)).trans HX.out),←Hu0.out,←Hc.out]
  exact cellsT_part t ss 0 (by omega) i (by rwa [Hu0.size]at hi)))
 have hs0:=λ(W:World) (hb:Below w.heap.size w W)=>refMay_any (t.get 0) (Nat.le_trans (ok.get 0).size (by decide)) F _ W (λg h=>Nat.lt_of_lt_of_le (hF g h) hb.size) ((hv 0 (by omega)).under hb hF)
 unfold ToldB at hs0
 obtain⟨m0,Hm0⟩:=name_itV (mayV (t.get 0) 0)
 rw[Hu0.out,Hm0.out]at hs0
 have HS0:=hid hs0
 clear hs0
 obtain⟨k0,Hk0⟩:=name_itV (t.get 0).kind
 have LK0:=hid (λ(W:World) (hb:Below w2.heap.size w2 W)=>(show W.cell? ⟨z,0,none⟩=some (.int .i64 k0) from by
  rw[cell_of_row W z 0 c _ _ ((hb.block z (blk_lt HX.out)).trans HX.out),←Hc.out,←Hk0.out]
  rfl))
 obtain⟨u1,Hu1⟩:=name6 (t.get 1) (ss 1)
 have IU1:=hid (infoV6.trans (congrArg some Hu1.size.symm))
 have LU1:=hid (λ(W:World) (hb:Below w2.heap.size w2 W) i (hi:i<u1.size)=>(show W.cell? ((⟨z,6,none⟩:Addr).add i)=u1[i]? from by
  rw[Addr.add_mid,cell_of_row W z (6+i) c _ _ ((hb.block z (blk_lt HX.out)).trans HX.out),←Hu1.out,←Hc.out]
  exact cellsT_part t ss 1 (by omega) i (by rwa [Hu1.size]at hi)))
 have hs1:=λ(W:World) (hb:Below w.heap.size w W)=>refMay_any (t.get 1) (Nat.le_trans (ok.get 1).size (by decide)) F _ W (λg h=>Nat.lt_of_lt_of_le (hF g h) hb.size) ((hv 1 (by omega)).under hb hF)
 unfold ToldB at hs1
 obtain⟨m1,Hm1⟩:=name_itV (mayV (t.get 1) 0)
 rw[Hu1.out,Hm1.out]at hs1
 have HS1:=hid hs1
 clear hs1
 obtain⟨k1,Hk1⟩:=name_itV (t.get 1).kind
 have LK1:=hid (λ(W:World) (hb:Below w2.heap.size w2 W)=>(show W.cell? ⟨z,6,none⟩=some (.int .i64 k1) from by
  rw[cell_of_row W z 6 c _ _ ((hb.block z (blk_lt HX.out)).trans HX.out),←Hc.out,←Hk1.out]
  rfl))
 obtain⟨u2,Hu2⟩:=name6 (t.get 2) (ss 2)
 have IU2:=hid (infoV6.trans (congrArg some Hu2.size.symm))
 have LU2:=hid (λ(W:World) (hb:Below w2.heap.size w2 W) i (hi:i<u2.size)=>(show W.cell? ((⟨z,12,none⟩:Addr).add i)=u2[i]? from by
  rw[Addr.add_mid,cell_of_row W z (12+i) c _ _ ((hb.block z (blk_lt HX.out)).trans HX.out),←Hu2.out,←Hc.out]
  exact cellsT_part t ss 2 (by omega) i (by rwa [Hu2.size]at hi)))
 have hs2:=λ(W:World) (hb:Below w.heap.size w W)=>refMay_any (t.get 2) (Nat.le_trans (ok.get 2).size (by decide)) F _ W (λg h=>Nat.lt_of_lt_of_le (hF g h) hb.size) ((hv 2 (by omega)).under hb hF)
 unfold ToldB at hs2
 obtain⟨m2,Hm2⟩:=name_itV (mayV (t.get 2) 0)
 rw[Hu2.out,Hm2.out]at hs2
 have HS2:=hid hs2
 clear hs2
 obtain⟨k2,Hk2⟩:=name_itV (t.get 2).kind
 have LK2:=hid (λ(W:World) (hb:Below w2.heap.size w2 W)=>(show W.cell? ⟨z,12,none⟩=some (.int .i64 k2) from by
  rw[cell_of_row W z 12 c _ _ ((hb.block z (blk_lt HX.out)).trans HX.out),←Hc.out,←Hk2.out]
  rfl))
 have HMT:=hid (show mayT t=(m0&&(m1&&(m2&&(decide (k1=8)&&(decide (k0=8∨k0=9)&&decide (k2=8∨k2=9∨k2=10∨k2=4∨k2=1∨k2=2∨k2=3)))))) from by rw[←Hm0.out,←Hm1.out,←Hm2.out,←Hk0.out,←Hk1.out,←Hk2.out];rfl)
 obtain⟨r,Hr⟩:=name_itV (mayT t)
 rw[Hr.out]at HMT
 unfold ToldB
 rw[Hr.out]
 clear hv hF ok Hk0 Hk1 Hk2 Hm0 Hm1 Hm2 Hr
 go_enter Tryz.func32,Tryz.ntmps32
 go_upto_region 1 with fail
 rw[HW2.out,Hz.out]
 clear HW2
 go_wp2_with ((with_reducible refine at_dst (some 4) ?_);refine ld_armG (by rfl) 34 _ rfl rfl u0 _ (LU0.out _ (Below.refl _ _)) Tryz.underlying34 rfl IU0.out ?_)
 refine (HS0.out _ (HPOST.out _ (Below.refl _ _))).mono ?_
 rintro e x0 ⟨rfl,hb⟩
 have HX0:=hid (show Below w2.heap.size w2 x0 from hb)
 clear hb
 cases m0 with
 | false=>
  go_wp2_with fail
  go_ret
  exact⟨congrArg (λb=>Ending.returned (Value.bool b)) (show false=r from by rw[HMT.out];simp),HPOST.out _ HX0.out⟩
 | true=>
  go_wp2_with ((with_reducible refine at_dst (some 9) ?_);refine ld_armG (by rfl) 34 _ rfl rfl u1 _ (LU1.out _ HX0.out) Tryz.underlying34 rfl IU1.out ?_)
  refine (HS1.out _ (HPOST.out _ HX0.out)).mono ?_
  rintro e x1 ⟨rfl,hb⟩
  have HX1:=hid (show Below w2.heap.size w2 x1 from HX0.out.trans (hb.mono HX0.out.size))
  clear hb
  cases m1 with
  | false=>
   go_wp2_with fail
   go_ret
   exact⟨congrArg (λb=>Ending.returned (Value.bool b)) (show false=r from by rw[HMT.out];simp),HPOST.out _ HX1.out⟩
  | true=>
   go_wp2_with ((with_reducible refine at_dst (some 15) ?_);refine ld_armG (by rfl) 34 _ rfl rfl u2 _ (LU2.out _ HX1.out) Tryz.underlying34 rfl IU2.out ?_)
   refine (HS2.out _ (HPOST.out _ HX1.out)).mono ?_
   rintro e x2 ⟨rfl,hb⟩
   have HX2:=hid (show Below w2.heap.size w2 x2 from HX1.out.trans (hb.mono HX1.out.size))
   clear hb
   cases m2 with
   | false=>
    go_wp2_with fail
    go_ret
    exact⟨congrArg (λb=>Ending.returned (Value.bool b)) (show false=r from by rw[HMT.out];simp),HPOST.out _ HX2.out⟩
   | true=>
    have q0:=LK0.out x2 HX2.out
    have q1:=LK1.out x2 HX2.out
    have q2:=LK2.out x2 HX2.out
    by_cases hk:k2=8∨k2=9∨k2=10∨k2=4∨k2=1∨k2=2∨k2=3
    ·have HK:=hid hk
     by_cases h1:k1=8
     ·have H1:=hid h1
      by_cases h0:k0=8
      ·have HE:=hid (show true=r from by rw[HMT.out,decide_eq_true H1.out,decide_eq_true (.inl h0),decide_eq_true HK.out];rfl)
       rcases hk with rfl | rfl | rfl | rfl | rfl | rfl | rfl
       all_goals
        subst h0
        subst h1
        go_wp2_with fail
        go_ret
        exact⟨congrArg (λb=>Ending.returned (Value.bool b)) HE.out,HPOST.out _ HX2.out⟩
      ·by_cases h9:k0=9
       ·have HE:=hid (show true=r from by rw[HMT.out,decide_eq_true H1.out,decide_eq_true (.inr h9),decide_eq_true HK.out];rfl)
        rcases hk with rfl | rfl | rfl | rfl | rfl | rfl | rfl
        all_goals
         subst h9
         subst h1
         go_wp2_with fail
         go_ret
         exact⟨congrArg (λb=>Ending.returned (Value.bool b)) HE.out,HPOST.out _ HX2.out⟩
       ·have HE:=hid (show false=r from by rw[HMT.out,decide_eq_true H1.out,decide_eq_false (by rintro (h | h);exact h0 h;exact h9 h)];rfl)
        rcases hk with rfl | rfl | rfl | rfl | rfl | rfl | rfl
        all_goals
         subst h1
         go_wp2_with fail
         go_ret
         exact⟨congrArg (λb=>Ending.returned (Value.bool b)) HE.out,HPOST.out _ HX2.out⟩
     ·have HE:=hid (show false=r from by rw[HMT.out,decide_eq_false h1];rfl)
      have hk1:(k1==(8:Int))=false:=by simpa using h1
      by_cases h0:k0=8
      ·rcases hk with rfl | rfl | rfl | rfl | rfl | rfl | rfl
       all_goals
        subst h0
        go_wp2_with fail
        go_ret
        exact⟨congrArg (λb=>Ending.returned (Value.bool b)) HE.out,HPOST.out _ HX2.out⟩
      ·by_cases h9:k0=9
       ·rcases hk with rfl | rfl | rfl | rfl | rfl | rfl | rfl
        all_goals
         subst h9
         go_wp2_with fail
         go_ret
         exact⟨congrArg (λb=>Ending.returned (Value.bool b)) HE.out,HPOST.out _ HX2.out⟩
       ·rcases hk with rfl | rfl | rfl | rfl | rfl | rfl | rfl
        all_goals
         go_wp2_with fail
         go_ret
         exact⟨congrArg (λb=>Ending.returned (Value.bool b)) HE.out,HPOST.out _ HX2.out⟩
    ·have HE:=hid (show false=r from by rw[HMT.out,decide_eq_false hk,Bool.and_false,Bool.and_false];rfl)
     have g1:¬k2=8:=λh=>hk (.inl h)
     have g2:¬k2=9:=λh=>hk (.inr (.inl h))
     have g3:¬k2=10:=λh=>hk (.inr (.inr (.inl h)))
     have g4:¬k2=4:=λh=>hk (.inr (.inr (.inr (.inl h))))
     have g5:¬k2=1:=λh=>hk (.inr (.inr (.inr (.inr (.inl h)))))
     have g6:¬k2=2:=λh=>hk (.inr (.inr (.inr (.inr (.inr (.inl h))))))
     have g7:¬k2=3:=λh=>hk (.inr (.inr (.inr (.inr (.inr (.inr h))))))
     clear hk
     go_wp2_with fail
     go_ret
     exact⟨congrArg (λb=>Ending.returned (Value.bool b)) HE.out,HPOST.out _ HX2.out⟩
theorem copyV2_any (v:Val) (hs:sizeL v.list≤100000000) {F:Nat→Prop} {u:Value} (w:World) (hF:∀g,F g→g<w.heap.size) (hv:VRd w F v u):Calls Tryz.prog 66 #[u] w (CopyVIs v w):=by
 obtain⟨A,cap,rfl,_,hl⟩:=hv.inv
 exact copy_step v A cap w hF hl λw' h1 h2=>copy_any (sizeL v.list+1) v.list (by omega) hs F A _ cap w' h2 h1
theorem copyV2_rd {v:Val} {s:Value} {w:World} {F:Nat→Prop} (h:LOwn w F v.list s):VRd w F v (.agg (cellsV v s)):=(VOwn.of_list h).rd
theorem wp_app_R {op:Oper} {a:Act} {K:Act→World→Prop} {Q:Exit→Act→World→Prop} (s x:Operand) (ho:op.op = .call { callee:=.builtin .append,args:=#[s,x],argTypes:=#[22,22] })
    {wr:World} {F G:Nat→Prop} {L:List Trip} {S:Value} {t:Trip} {c:Array Value} {n:Nat} (hS:a.eval s=S) (hown:SOwn 41 18 TrR wr F L S) (hL:L.length=n) (hx:a.eval x = .slice (some ⟨wr.heap.size,0,none⟩) 1 1) (hc:TrR wr G t c) (hc1:∀u∈c.toList,u.oneCell'=true) (hlen:n≤1000000000) (hF:∀b,F b→b<wr.heap.size) (hG:∀b,G b→b<wr.heap.size) (hGS:∀b,G b→S.ownBlock≠some b)
    (h:∀g cap w',SOwn 41 18 TrR w' (λb=>F b∨G b∨b=g) (L++[t]) (.slice (some ⟨g,0,none⟩) (n+1) cap)→wr.grownBy w' S.ownBlock→(S.ownBlock=some g∨wr.heap.size≤g)→g<w'.heap.size→K (a.put op.dst (.slice (some ⟨g,0,none⟩) (n+1) cap)) w') :
    op.wp Tryz.prog a (wr.alloc (.cells c 41)) K Q:=by
 subst hL
 obtain⟨i0,hi,hz0,hz1,hz2⟩:=info_parts infoTrs
 obtain⟨cs,hrow,h6,hFw,hr⟩:=hown
 have hc18:c.size=18:=by obtain⟨ss,e,_⟩:=hc;rw[e];rfl
 refine wp_append_lies _ s x _ ho 0 41 i0 _ 18 240 Tryz.underlying22 hi hz0 hz1 hz2 rfl (by decide) S L.length (flatC cs L.length) hS (hrow.alloc _) ⟨wr.heap.size,0,none⟩ 1 1 c.toList hx (by rw[Array.length_toList,hc18]) (World.news_of_block (heap_alloc_new wr _)) hc1 (by omega) (by unfold maxLen;omega) (by omega) (Nat.zero_le _) (wr.heap.size+1) (by simp) (λg cap w' h1 h2 h3 h4=>?_)
 have hg:=grown_after h2
 have hl:S.ownBlock=some g∨wr.heap.size≤g:=h3.imp id (λe=>by rw[e];omega)
 exact h g cap w' (SOwn.snoc (x:=t) (c:=c) (G:=G) TrR.good ⟨cs,hrow,h6,hFw,hr⟩ hc hc18 hGS hF hG (λcs' h'=>by rw[own_inj h' hrow];exact h1) hg hl) hg hl h4
def CopyTsIs (L:List Trip) (w:World) (e:Ending) (w':World):Prop:=∃v,e = .returned v∧SOwn 41 18 TrR w' (λb=>w.heap.size≤b∧b<w'.heap.size) L v∧Below w.heap.size w w'
structure CpM (w:World) (L:List Trip) (S:Value) (wx:World):Prop where
 hb:Below w.heap.size w wx
 own:SOwn 41 18 TrR wx (λb=>w.heap.size≤b∧b<wx.heap.size) L S
theorem CpM.on {w wx w':World} {L:List Trip} {S:Value} (h:CpM w L S wx) (hb:Below wx.heap.size wx w'):CpM w L S w':=
 ⟨h.hb.trans (hb.mono h.hb.size),(h.own.turn TrR.good (Turn.of_below hb) (λb hb=>hb.2) (λb hb=>λe=>by have e:wx.heap.size≤b:=e;have:=hb.2;omega)).mono TrR.good λb h1=>⟨h1.1,Nat.lt_of_lt_of_le h1.2 hb.size⟩⟩
theorem CpM.drew {w wx:World} {L:List Trip} {S:Value} (h:CpM w L S wx):CpM w L S wx.drew:=h.on (Below.refl _ _).drew
theorem CpM.lt {w wx:World} {L:List Trip} {S:Value} (h:CpM w L S wx) {b:Nat} (hb:S.ownBlock=some b):w.heap.size≤b∧b<wx.heap.size:=by
 obtain⟨_,_,_,hF,_⟩:=h.own
 exact hF b hb
theorem CpM.more {w wr w':World} {g cap n:Nat} {S:Value} {L:List Trip} {t:Trip} {G:Nat→Prop} (h:CpM w L S wr) (hg:wr.grownBy w' S.ownBlock) (hl:S.ownBlock=some g∨wr.heap.size≤g) (hgw:g<w'.heap.size) (hG:∀b,G b→w.heap.size≤b∧b<wr.heap.size)
    (ho:SOwn 41 18 TrR w' (λb=>(w.heap.size≤b∧b<wr.heap.size)∨G b∨b=g) (L++[t]) (.slice (some ⟨g,0,none⟩) n cap)):CpM w (L++[t]) (.slice (some ⟨g,0,none⟩) n cap) w':=by
 refine⟨below_turn h.hb (Turn.of_grown hg) (λb hb=>(h.lt hb.symm).1),ho.mono TrR.good λb hb=>?_⟩
 rcases hb with hb | hb | rfl
 ·exact⟨hb.1,Nat.lt_of_lt_of_le hb.2 hg.size⟩
 ·exact⟨(hG b hb).1,Nat.lt_of_lt_of_le (hG b hb).2 hg.size⟩
 ·refine⟨?_,hgw⟩
  rcases hl with h1 | h1
  ·exact (h.lt h1).1
  ·exact Nat.le_trans h.hb.size h1
theorem one_tr {t:Trip} {ss:Nat→Value} (h:∀n,n<3→∃A l c,ss n = .slice A l c):∀u∈(cellsT t ss).toList,u.oneCell'=true:=cellsT_one t ss h
set_option maxRecDepth 100000 in
set_option maxHeartbeats 16000000 in
theorem copyTs_any {F:Nat→Prop} {w:World} {L:List Trip} {A:Option Addr} {n cp:Nat} (h:SRd 18 TrR w F L A n) (hF:∀b,F b→b<w.heap.size) (hn:n≤1000000000) (hsz:∀t,t∈L→∀i,sizeL (t.get i).list≤100000000) :
    Calls Tryz.prog 29 #[.slice A n cp] w (CopyTsIs L w):=by
 have H1:=hid h
 have HF:=hid hF
 have HSZ:=hid hsz
 have L1:=hid h.1
 have HN:=hid hn
 have HST:=hid (show CpM w [] (.slice none 0 0) w from ⟨Below.refl _ _,SOwn.nil ..⟩)
 clear h hF hsz
 go_enter Tryz.func29,Tryz.ntmps29
 go_wp2_with fail
 go_loopw [3,4] (λs3 s4 wx=>∃(k:Nat) (S:Value),k≤n∧s4 = .int .i64 (k:Nat)∧S=s3∧Hid (CpM w (L.take k) S wx)) (λ_ s _=>n-(intOf s).toNat)
 case atStart=>exact⟨0,_,by omega,rfl,rfl,HST.out⟩
 case round=>
  obtain⟨k,S,hk,rfl,rfl,hM⟩:=hrel
  by_cases hlt:k<n
  ·have a1:(0:Int)≤k:=by omega
   have a2:(k:Int)<n:=by omega
   have w1:IntKind.i64.wrap ((k:Int)+1)=(k:Int)+1:=IntWalk.i64_in _ (by omega)
   obtain⟨t,ht⟩:∃t,L[k]?=some t:=⟨_,List.getElem?_eq_getElem (by rw[←L1.out];exact hlt)⟩
   obtain⟨ad,ss,rfl,hfa,hq,hr⟩:=TrR.cells H1.out ht
   have HT:=hid ht
   have HTM:=hid (List.mem_of_getElem? ht)
   have HLT:=hid hlt
   have HR:=hid (λ(W:World) (hb:Below w.heap.size w W) (q:Nat) (hq:q<3)=>(hr q hq).under hb HF.out)
   have HFW:=hid (λ(W:World) (hb:Below w.heap.size w W) g h=>Nat.lt_of_lt_of_le (HF.out g h) hb.size)
   obtain⟨u0,Hu0⟩:=name6 (t.get 0) (ss 0)
   have IU0:=hid (infoV6.trans (congrArg some Hu0.size.symm))
   have HQ0:=hid (λ(W:World) (hb:Below w.heap.size w W) (j:Nat) (hj:j<u0.size)=>(show W.cell? (((ad.add (k*18)).add 0).add j)=u0[j]? from by
    have h1:=hq (0+j) (by rw[cellsT_size];rw[Hu0.size]at hj;omega)
    rw[add_of_add,hb.cell (p:=(ad.add (k*18)).add (0+j)) (by rw[add_blk,add_blk];exact HF.out _ hfa),h1,←Hu0.out]
    exact cellsT_part t ss 0 (by omega) j (by rwa [Hu0.size]at hj)))
   have hc0:=λ(W:World) (hb:Below w.heap.size w W)=>copyV2_any (t.get 0) (HSZ.out t HTM.out 0) W (HFW.out W hb) (HR.out W hb 0 (by omega))
   rw[Hu0.out]at hc0
   have HC0:=hid hc0
   clear hc0
   obtain⟨u1,Hu1⟩:=name6 (t.get 1) (ss 1)
   have IU1:=hid (infoV6.trans (congrArg some Hu1.size.symm))
   have HQ1:=hid (λ(W:World) (hb:Below w.heap.size w W) (j:Nat) (hj:j<u1.size)=>(show W.cell? (((ad.add (k*18)).add 6).add j)=u1[j]? from by
    have h1:=hq (6+j) (by rw[cellsT_size];rw[Hu1.size]at hj;omega)
    rw[add_of_add,hb.cell (p:=(ad.add (k*18)).add (6+j)) (by rw[add_blk,add_blk];exact HF.out _ hfa),h1,←Hu1.out]
    exact cellsT_part t ss 1 (by omega) j (by rwa [Hu1.size]at hj)))
   have hc1:=λ(W:World) (hb:Below w.heap.size w W)=>copyV2_any (t.get 1) (HSZ.out t HTM.out 1) W (HFW.out W hb) (HR.out W hb 1 (by omega))
   rw[Hu1.out]at hc1
   have HC1:=hid hc1
   clear hc1
   obtain⟨u2,Hu2⟩:=name6 (t.get 2) (ss 2)
   have IU2:=hid (infoV6.trans (congrArg some Hu2.size.symm))
   have HQ2:=hid (λ(W:World) (hb:Below w.heap.size w W) (j:Nat) (hj:j<u2.size)=>(show W.cell? (((ad.add (k*18)).add 12).add j)=u2[j]? from by
    have h1:=hq (12+j) (by rw[cellsT_size];rw[Hu2.size]at hj;omega)
    rw[add_of_add,hb.cell (p:=(ad.add (k*18)).add (12+j)) (by rw[add_blk,add_blk];exact HF.out _ hfa),h1,←Hu2.out]
    exact cellsT_part t ss 2 (by omega) j (by rwa [Hu2.size]at hj)))
   have hc2:=λ(W:World) (hb:Below w.heap.size w W)=>copyV2_any (t.get 2) (HSZ.out t HTM.out 2) W (HFW.out W hb) (HR.out W hb 2 (by omega))
   rw[Hu2.out]at hc2
   have HC2:=hid hc2
   clear hc2
   clear ht hfa hq hr
   go_upto_region 5 with fail
   refine wp_region_held_drew (S:=λW'=>Below w.heap.size w W') (by kernel_rfl) hM.out.hb.drew (λhHeld=>?_)
   refine Boxed.out ?_
   refine tkW 0 11 (S) hHeld (λw hSw=>?_) (λhHeld=>?_)
   ·unfold runsTo
    go_simp
   try simp only[Act.put,aT,aZ,aS]
   refine tkW 1 12 (.slice (some ad) n cp) hHeld (λw hSw=>?_) (λhHeld=>?_)
   ·unfold runsTo
    go_simp
   try simp only[Act.put,aT,aZ,aS]
   refine tkW 2 13 (.int .i64 (k:Nat)) hHeld (λw hSw=>?_) (λhHeld=>?_)
   ·unfold runsTo
    go_simp
   try simp only[Act.put,aT,aZ,aS]
   refine tkW 3 14 (.pointer (some (ad.add (k*18)))) hHeld (λw hSw=>?_) (λhHeld=>?_)
   ·exact val_of (idx_tr ad n cp k HLT.out w)
   try simp only[Act.put,aT,aZ,aS]
   refine tkW 4 15 (.pointer (some ((ad.add (k*18)).add 0))) hHeld (λw hSw=>?_) (λhHeld=>?_)
   ·unfold runsTo
    go_simp
   try simp only[Act.put,aT,aZ,aS]
   refine tkW 5 16 (.agg u0) hHeld (λw hSw=>?_) (λhHeld=>?_)
   ·have p:=run_loadVar_at w ((ad.add (k*18)).add 0) 34 u0 _ (HQ0.out _ hSw) Tryz.underlying34 rfl IU0.out
    exact val_of (by simp only[Instr.loadAt,Instr.sureAddr,Sem.run_bind];exact p)
   try simp only[Act.put,aT,aZ,aS]
   refine tkW 7 18 (.slice (some ad) n cp) hHeld (λw hSw=>?_) (λhHeld=>?_)
   ·unfold runsTo
    go_simp
   try simp only[Act.put,aT,aZ,aS]
   refine tkW 8 19 (.int .i64 (k:Nat)) hHeld (λw hSw=>?_) (λhHeld=>?_)
   ·unfold runsTo
    go_simp
   try simp only[Act.put,aT,aZ,aS]
   refine tkW 9 20 (.pointer (some (ad.add (k*18)))) hHeld (λw hSw=>?_) (λhHeld=>?_)
   ·exact val_of (idx_tr ad n cp k HLT.out w)
   try simp only[Act.put,aT,aZ,aS]
   refine tkW 10 21 (.pointer (some ((ad.add (k*18)).add 6))) hHeld (λw hSw=>?_) (λhHeld=>?_)
   ·unfold runsTo
    go_simp
   try simp only[Act.put,aT,aZ,aS]
   refine tkW 11 22 (.agg u1) hHeld (λw hSw=>?_) (λhHeld=>?_)
   ·have p:=run_loadVar_at w ((ad.add (k*18)).add 6) 34 u1 _ (HQ1.out _ hSw) Tryz.underlying34 rfl IU1.out
    exact val_of (by simp only[Instr.loadAt,Instr.sureAddr,Sem.run_bind];exact p)
   try simp only[Act.put,aT,aZ,aS]
   refine tkW 13 24 (.slice (some ad) n cp) hHeld (λw hSw=>?_) (λhHeld=>?_)
   ·unfold runsTo
    go_simp
   try simp only[Act.put,aT,aZ,aS]
   refine tkW 14 25 (.int .i64 (k:Nat)) hHeld (λw hSw=>?_) (λhHeld=>?_)
   ·unfold runsTo
    go_simp
   try simp only[Act.put,aT,aZ,aS]
   refine tkW 15 26 (.pointer (some (ad.add (k*18)))) hHeld (λw hSw=>?_) (λhHeld=>?_)
   ·exact val_of (idx_tr ad n cp k HLT.out w)
   try simp only[Act.put,aT,aZ,aS]
   refine tkW 16 27 (.pointer (some ((ad.add (k*18)).add 12))) hHeld (λw hSw=>?_) (λhHeld=>?_)
   ·unfold runsTo
    go_simp
   try simp only[Act.put,aT,aZ,aS]
   refine tkW 17 28 (.agg u2) hHeld (λw hSw=>?_) (λhHeld=>?_)
   ·have p:=run_loadVar_at w ((ad.add (k*18)).add 12) 34 u2 _ (HQ2.out _ hSw) Tryz.underlying34 rfl IU2.out
    exact val_of (by simp only[Instr.loadAt,Instr.sureAddr,Sem.run_bind];exact p)
   try simp only[Act.put,aT,aZ,aS]
   refine tkC 6 (λK hK=>?_)
   change Oper.wp _ ⟨some 17,_,_,_,_,_⟩ _ _ _ _
   go_simp
   refine (HC0.out _ hHeld).mono ?_
   unfold CopyVIs
   rintro e x0 ⟨s0,rfl,hb,ho⟩
   obtain⟨v0,Hv0⟩:=name6 (t.get 0) s0
   rw[Hv0.out]
   have HB0:=hid hb
   have HO0:=hid ho
   have HS0:=hid (hHeld.trans (hb.mono hHeld.size))
   clear hb ho
   dsimp only
   refine hK.out _ _ HS0.out (λhHeld=>?_)
   clear hK K
   try simp only[Act.put,aT,aZ,aS]
   refine tkC 12 (λK hK=>?_)
   change Oper.wp _ ⟨some 23,_,_,_,_,_⟩ _ _ _ _
   go_simp
   refine (HC1.out _ hHeld).mono ?_
   unfold CopyVIs
   rintro e x1 ⟨s1,rfl,hb,ho⟩
   obtain⟨v1,Hv1⟩:=name6 (t.get 1) s1
   rw[Hv1.out]
   have HB1:=hid hb
   have HO1:=hid ho
   have HS1:=hid (hHeld.trans (hb.mono hHeld.size))
   clear hb ho
   dsimp only
   refine hK.out _ _ HS1.out (λhHeld=>?_)
   clear hK K
   try simp only[Act.put,aT,aZ,aS]
   refine tkC 18 (λK hK=>?_)
   change Oper.wp _ ⟨some 29,_,_,_,_,_⟩ _ _ _ _
   go_simp
   refine (HC2.out _ hHeld).mono ?_
   unfold CopyVIs
   rintro e x2 ⟨s2,rfl,hb,ho⟩
   obtain⟨v2,Hv2⟩:=name6 (t.get 2) s2
   rw[Hv2.out]
   have HB2:=hid hb
   have HO2:=hid ho
   have HS2:=hid (hHeld.trans (hb.mono hHeld.size))
   clear hb ho
   dsimp only
   refine hK.out _ _ HS2.out (λhHeld=>?_)
   clear hK K
   try simp only[Act.put,aT,aZ,aS]
   obtain⟨sf,hsf⟩:∃sf:Nat→Value,sf 0=s0∧sf 1=s1∧sf 2=s2:=⟨λi=>if i=0 then s0 else if i=1 then s1 else s2,rfl,rfl,rfl⟩
   obtain⟨ct,Hct⟩:=name18 t sf
   have HBD:=hid (show ∀W,(Instr.build 41 #[(0,.agg v0),(1,.agg v1),(2,.agg v2)]).run Tryz.prog W = .ok (.agg ct) W from λW=>by
    have:=build_trp t sf W
    rwa [hsf.1,hsf.2.1,hsf.2.2,Hv0.out,Hv1.out,Hv2.out,Hct.out]at this)
   have ZC:=hid Hct.size
   have HM2:=hid (((hM.out.drew.on HB0.out).on HB1.out).on HB2.out)
   have HTR:=hid (show TrR x2 (λb=>wr.heap.size≤b∧b<x2.heap.size) t ct from by
    have g0:=HB0.out.size
    have g1:=HB1.out.size
    have g2:=HB2.out.size
    refine⟨sf,Hct.out.symm,λq hq=>?_⟩
    rcases (show q=0∨q=1∨q=2 by omega) with rfl | rfl | rfl
    ·rw[hsf.1]
     exact (((copyV2_rd HO0.out).under HB1.out (λb hb=>hb.2)).under HB2.out (λb hb=>Nat.lt_of_lt_of_le hb.2 g1)).mono λb hb=>⟨hb.1,Nat.lt_of_lt_of_le hb.2 (Nat.le_trans g1 g2)⟩
    ·rw[hsf.2.1]
     exact ((copyV2_rd HO1.out).under HB2.out (λb hb=>hb.2)).mono λb hb=>⟨Nat.le_trans g0 hb.1,Nat.lt_of_lt_of_le hb.2 g2⟩
    ·rw[hsf.2.2]
     exact (copyV2_rd HO2.out).mono λb hb=>⟨Nat.le_trans (Nat.le_trans g0 g1) hb.1,hb.2⟩)
   have HONE:=hid (show ∀u∈ct.toList,u.oneCell'=true from by
    rw[←Hct.out]
    refine one_tr λq hq=>?_
    rcases (show q=0∨q=1∨q=2 by omega) with rfl | rfl | rfl
    ·obtain⟨A,c,e⟩:=HO0.out.form
     exact⟨A,_,c,by rw[hsf.1,e]⟩
    ·obtain⟨A,c,e⟩:=HO1.out.form
     exact⟨A,_,c,by rw[hsf.2.1,e]⟩
    ·obtain⟨A,c,e⟩:=HO2.out.form
     exact⟨A,_,c,by rw[hsf.2.2,e]⟩)
   clear hsf
   refine tkW 19 30 (.agg ct) hHeld (λw hSw=>?_) (λhHeld=>?_)
   ·refine val_of (Eq.trans (congrArg (λq=>(Instr.build 41 q).run Tryz.prog w) ?_) (HBD.out w))
    kernel_rfl
   try simp only[Act.put,aT,aZ,aS]
   refine tkC 20 (λK hK=>?_)
   change Oper.wp _ ⟨some 31,_,_,_,_,_⟩ _ _ _ _
   refine wp_bsL (.tmp 30) rfl rfl ZC.out ?_
   refine hK.out _ _ (hHeld.alloc hHeld.size _) (λhHeld=>?_)
   clear hK K
   try simp only[Act.put,aT,aZ,aS]
   refine tkC 21 (λK hK=>?_)
   change Oper.wp _ ⟨some 32,_,_,_,_,_⟩ _ _ _ _
   refine wp_app_R (.tmp 11) (.tmp 31) rfl rfl HM2.out.own (show (L.take k).length=k from by rw[List.length_take];have:=L1.out;have:=HLT.out;omega) rfl HTR.out HONE.out (by have:=HN.out;have:=HLT.out;omega) (λb hb=>hb.2) (λb hb=>hb.2) (λb hb e=>by have:=(hM.out.lt e).2;have:=hb.1;omega) (λg7 c7 w7 ho7 hg7 hl7 hw7=>?_)
   have HM7:=hid (HM2.out.more hg7 hl7 hw7 (λb hb=>⟨Nat.le_trans hM.out.hb.size hb.1,hb.2⟩) ho7)
   clear ho7 hg7 hl7 hw7
   refine hK.out _ _ HM7.out.hb (λhHeld=>?_)
   clear hK K
   try simp only[Act.put,aT,aZ,aS]
   refine tkW 22 3 (.slice (some ⟨g7,0,none⟩) (k+1) c7) hHeld (λw hSw=>?_) (λhHeld=>?_)
   ·unfold runsTo
    go_simp
   try simp only[Act.put,aT,aZ,aS]
   refine⟨wpAnyH_done (by kernel_rfl) ?_ _⟩
   clear hHeld
   go_wp2_with fail
   go_roundw
   case rel=>exact⟨k+1,_,by omega,by go_num,rfl,hid (by rw[take_oneMore HT.out];exact HM7.out)⟩
   case measure=>simp[intOf];omega
  ·have a2:¬(k:Int)<n:=by omega
   have HE:=hid (show CopyTsIs L w (.returned S) wr from ⟨S,rfl,by have:=hM.out.own;rwa [List.take_of_length_le (by have:=L1.out;omega)]at this,hM.out.hb⟩)
   go_wp2_with fail
   go_ret
   exact HE.out
end Go.Proofs.YtijciakkfpjjbaaGreatDoor
