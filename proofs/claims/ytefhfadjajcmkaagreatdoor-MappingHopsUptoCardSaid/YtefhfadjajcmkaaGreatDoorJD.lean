/- The program's Same of a value that is no list. -/
import Derived.Test.YtefhfadjajcmkaaGreatDoorJC
set_option linter.unusedVariables false
set_option linter.unusedSimpArgs false
set_option maxRecDepth 100000
set_option maxHeartbeats 64000000
namespace Go.Proofs.YtefhfadjajcmkaaGreatDoor
open Go Go.RowKit Go.Maps
open Go.Lib (cell_of_heap)
structure ln_ (F:Nat->Prop) (c:Nat) (T:List d_) (l:List Nat) (cs:Nat->Array Value) (S s:Value) (w:World):Prop where
 st:w.cell? ⟨c,0,none⟩=some S
 row:je_ F w cs T S
 nums:ih_ F w l s
 lt:∀n,n∈l->n<T.length
 fc:F c
 fl:∀b,F b->b<w.heap.size
structure ii_ (F:Nat->Prop) (c:Nat) (T:List d_) (l:List Nat) (cs:Nat->Array Value) (S s:Value) (b1 b2 b3 b4 p:Nat) (P:d_) (ps:Nat->Value) (w:World):Prop where
 r:ln_ F c T l cs S s w
 v1:w.cell? ⟨b1,0,none⟩=some (.pointer (some ⟨c,0,none⟩))
 v2:w.cell? ⟨b2,0,none⟩=some s
 v3:w.cell? ⟨b3,0,none⟩=some (.int .i64 (p:Nat))
 v4:w.heap[b4]?=some (.cells (s_ P ps) 99 (0,0))
section
variable {F:Nat->Prop} {c:Nat} {T:List d_} {l:List Nat} {cs:Nat->Array Value} {S s:Value} {b1 b2 b3 b4 p:Nat} {P:d_} {ps:Nat->Value} {w w':World}
theorem ln_.turn (h:ln_ F c T l cs S s w) {f:Nat->Prop} (ht:Turn f w w') (h1:∀b,F b->¬f b):ln_ F c T l cs S s w':=
 have d:∀b,F b->w'.heap[b]?=w.heap[b]?:=λb hb=>ht.block b (h.fl b hb) (h1 b hb)
 ⟨(World.cell?_of_block (a:=⟨c,0,none⟩) (d c h.fc)).trans h.st,h.row.keep λ_ e=>World.cell?_of_block (d _ e),h.nums.keep λ_ e=>World.cell?_of_block (d _ e),h.lt,h.fc,λb hb=>Nat.lt_of_lt_of_le (h.fl b hb) ht.size⟩
theorem ln_.on (h:ln_ F c T l cs S s w) (hb:Below w.heap.size w w'):ln_ F c T l cs S s w':=
 h.turn (Turn.of_below hb) (λb a h2=>by have:=h.fl b a;have h2:w.heap.size<=b:=h2;omega)
theorem ii_.on (h:ii_ F c T l cs S s b1 b2 b3 b4 p P ps w) (hb:Below w.heap.size w w'):ii_ F c T l cs S s b1 b2 b3 b4 p P ps w':=
 ⟨h.r.on hb,(hb.cell (p:=⟨b1,0,none⟩) (a2_ h.v1)).trans h.v1,(hb.cell (p:=⟨b2,0,none⟩) (a2_ h.v2)).trans h.v2,(hb.cell (p:=⟨b3,0,none⟩) (a2_ h.v3)).trans h.v3,(hb.block b4 (b_ h.v4)).trans h.v4⟩
theorem ii_.drew (h:ii_ F c T l cs S s b1 b2 b3 b4 p P ps w):ii_ F c T l cs S s b1 b2 b3 b4 p P ps w.drew:=h.on (Below.refl _ _).drew
theorem kf_ {g e:Nat} (h:w.heap[g]?=some (.cells (s_ P ps) 99 (0,0))) (b:e<3):w.rangeAt g (e*6) (c_ (P.get e) (ps e)).toList:=λi v a=>by
 have hi:i<6:=(List.getElem?_eq_some_iff.1 a).1;refine (cell_of_row w g (e*6+i) _ _ _ h).trans ?_;rw[D_ P ps e b i hi,<-Array.getElem?_toList];exact a
theorem ln_.stand (h:ln_ F c T l cs S s w) {n k:Nat} (u:l[n]?=some k):∃(o M m q I:Nat) (t:d_) (ss:Nat->Value),S = .slice (some ⟨o,0,none⟩) T.length M/\s = .slice (some ⟨m,q,none⟩) l.length I/\T[k]?=some t/\k<T.length /\
    (∀w':World,ln_ F c T l cs S s w'->w'.cell? ⟨m,q+n,none⟩=some (.int .i64 (k:Nat))/\∀e,e<3->w'.rangeAt o (k*18+e*6) (c_ (t.get e) (ss e)).toList)/\(∀e,e<3->∃A g,ss e = .slice A 0 g):=by
 have W:n<l.length:=(List.getElem?_eq_some_iff.1 u).1;have j:=h.lt k (List.mem_of_getElem? u);obtain⟨t,ht⟩:∃t,T[k]?=some t:=⟨_,List.getElem?_eq_getElem j⟩;obtain⟨A,g,rfl,O,C⟩:=h.row.form;obtain⟨B,r,rfl,U,G⟩:=h.nums;obtain⟨o,rfl,_,N⟩:=C (by omega);obtain⟨m,q,rfl,_,R⟩:=G (by omega);obtain⟨_,_,ss,D,E⟩:=h.row.el k t ht;refine⟨o,g,m,q,r,t,ss,rfl,rfl,ht,j,λw' z=>⟨?_,λe J i v y=>?_⟩,D⟩
 ·obtain⟨Y,x,b,_,f⟩:=z.nums;injection b with b _ _;obtain⟨L,V,a,_,d⟩:=f (by omega);rw[<-b]at a;injection a with a;injection a with a e4;subst a e4;exact d n k u
 ·obtain⟨X,x,b,_,f⟩:=z.row.form;injection b with b _ _;obtain⟨L,a,_,d⟩:=f (by omega);rw[<-b]at a;injection a with a;injection a with a;subst a;have hi:i<6:=(List.getElem?_eq_some_iff.1 y).1;rw[show k*18+e*6+i=k*18+(e*6+i) by omega,d k j (e*6+i) (by omega),E,D_ t ss e J i hi,<-Array.getElem?_toList];exact y
theorem I0_ (h:ii_ F c T l cs S s b1 b2 b3 b4 p P ps w) (W:p<3) (n k:Nat) (t:d_) (U:l[n]?=some k) (ht:T[k]?=some t) (ka:ov_ (t.get p)) (fb:ag_ (P.get p)) (G:F_ w) (J:as_ w) :
    Calls Tryz.prog 121 #[.int .i64 (n:Nat),.pointer (some ⟨b1,0,none⟩),.pointer (some ⟨b2,0,none⟩),.pointer (some ⟨b3,0,none⟩),.pointer (some ⟨b4,0,none⟩)] w (u_ (decide (0<=G_ (t.get p) (P.get p))) w):=by
 obtain⟨d,C,x,y,A,t',ss,rfl,rfl,j,L,O,a4⟩:=h.r.stand U;rw[ht]at j;injection j with j;subst j;have HN:=q_ (show n<l.length from (List.getElem?_eq_some_iff.1 U).1);have HK:=q_ L;have HW:=q_ O;obtain⟨N,Z⟩:=a_ T.length;obtain⟨M,HM⟩:=a_ l.length;rw[HM.o]at HN;rw[Z.o]at HK;have z:=q_ W;have Y:=q_ (λ(w':World) (h':ln_ F c T l cs (.slice (some ⟨d,0,none⟩) T.length C) (.slice (some ⟨x,y,none⟩) l.length A) w')=>(O w' h').2 p W);have i:=q_ (ow_ (t.get p) (P.get p) (ss p) (ps p) w.drew ka fb (f_ G (Below.refl _ _).drew) (n_ J (Below.refl _ _).drew));unfold d4_ at i;unfold u_;obtain⟨u,B⟩:=a_ (c_ (t.get p) (ss p));obtain⟨V,m⟩:=a_ (c_ (P.get p) (ps p));obtain⟨q,X⟩:=a_ (G_ (t.get p) (P.get p));rw[B.o,m.o,X.o]at i;have Z6:=q_ (show u.size=6 from by rw[<-B.o];rfl);have a3:=q_ (show V.size=6 from by rw[<-m.o];rfl);rw[B.o]at Y;have I6:=q_ (am_.trans (congrArg some Z6.o.symm));have a0:=q_ (am_.trans (congrArg some a3.o.symm));rw[X.o];obtain⟨v,R⟩:=a_ (decide (0<=q));have a2:=q_ R.o;rw[R.o];have D:=q_ h;clear B X R O h a4 U ht W L ka fb G J;go_enter Tryz.func121,Tryz.ntmps121
 go_upto_region 1 with fail;refine wp_region_held_drew (S:=λW'=>ii_ F c T l cs (.slice (some ⟨d,0,none⟩) T.length C) (.slice (some ⟨x,y,none⟩) l.length A) b1 b2 b3 b4 p P ps W') (by kernel_rfl) D.o.drew λa=>?_;refine V_.o ?_;refine J_ 0 7 (.pointer (some ⟨c,0,none⟩)) a (λw b=>?_) λa=>?_
 ·have g:=b.v1;unfold o_;go_simp
 (try simp only[Act.put,aT,aZ,aS]);refine v_ 1 8 (.pointer (some ⟨c,0,none⟩)) a λa=>?_;(try simp only[Act.put,aT,aZ,aS]);refine v_ 2 9 (.pointer (some ⟨c,0,none⟩)) a λa=>?_;(try simp only[Act.put,aT,aZ,aS]);refine J_ 3 10 (.slice (some ⟨d,0,none⟩) N C) a (λw b=>?_) λa=>?_
 ·have g:=b.r.st;rw[Z.o]at g;unfold o_;go_simp
 (try simp only[Act.put,aT,aZ,aS]);refine J_ 4 11 (.slice (some ⟨x,y,none⟩) M A) a (λw b=>?_) λa=>?_
 ·have g:=b.v2;rw[HM.o]at g;unfold o_;go_simp
 (try simp only[Act.put,aT,aZ,aS]);refine v_ 5 12 (.int .i64 (n:Nat)) a λa=>?_;(try simp only[Act.put,aT,aZ,aS]);refine J_ 6 13 (.pointer (some ⟨x,y+n,none⟩)) a (λw b=>?_) λa=>?_
 ·exact k_ (nf_ x y M A n HN.o w)
 (try simp only[Act.put,aT,aZ,aS]);refine J_ 7 14 (.int .i64 (k:Nat)) a (λw b=>?_) λa=>?_
 ·have g:=(HW.o w b.r).1;unfold o_;go_simp
 (try simp only[Act.put,aT,aZ,aS]);refine J_ 8 15 (.int .i64 (p:Nat)) a (λw b=>?_) λa=>?_
 ·have g:=b.v3;unfold o_;go_simp
 (try simp only[Act.put,aT,aZ,aS]);refine J_ 9 16 (.pointer (some ⟨d,k*18,none⟩)) a (λw b=>?_) λa=>?_
 ·exact k_ (gm_ d N C k HK.o w)
 (try simp only[Act.put,aT,aZ,aS]);refine J_ 10 17 (.pointer (some ⟨d,k*18+p*6,none⟩)) a (λw b=>?_) λa=>?_
 ·exact k_ (f6_ d (k*18) p z.o w)
 (try simp only[Act.put,aT,aZ,aS]);refine J_ 11 18 (.agg u) a (λw b=>?_) λa=>?_
 ·have f:=run_loadAt_mid (P:=Tryz.prog) w d (k*18+p*6) 39 u.toList _ (Y.o w b.r) Tryz.underlying39 rfl (by rw[Array.length_toList];exact I6.o);rw[Array.toArray_toList]at f;exact k_ f
 (try simp only[Act.put,aT,aZ,aS]);refine J_ 12 19 (.int .i64 (p:Nat)) a (λw b=>?_) λa=>?_
 ·have g:=b.v3;unfold o_;go_simp
 (try simp only[Act.put,aT,aZ,aS]);refine J_ 13 20 (.pointer (some ⟨b4,p*6,none⟩)) a (λw b=>?_) λa=>?_
 ·have f:=f6_ b4 0 p z.o w;rw[Nat.zero_add]at f;exact k_ f
 (try simp only[Act.put,aT,aZ,aS]);refine J_ 14 21 (.agg V) a (λw b=>?_) λa=>?_
 ·have f:=run_loadAt_mid (P:=Tryz.prog) w b4 (p*6) 39 V.toList _ (by rw[<-m.o];exact kf_ b.v4 z.o) Tryz.underlying39 rfl (by rw[Array.length_toList];exact a0.o);rw[Array.toArray_toList]at f;exact k_ f
 (try simp only[Act.put,aT,aZ,aS]);refine tkC 15 λK hK=>?_;change Oper.wp _ ⟨some 22,_,_,_,_,_⟩ _ _ _ _;go_simp;refine i.o.mono ?_;rintro e w2 ⟨rfl,I⟩;have E:=q_ (show Below w.heap.size w w2 from aa_ I);have a1:=q_ (D.o.on E.o);clear I i;dsimp only;refine hK.out _ _ a1.o λa=>?_;clear hK K;(try simp only[Act.put,aT,aZ,aS]);refine J_ 16 23 (.bool v) a (λw b=>?_) λa=>?_
 ·have g:=a2.o;unfold o_;go_simp
 (try simp only[Act.put,aT,aZ,aS]);refine v_ 17 6 (.bool v) a λa=>?_;(try simp only[Act.put,aT,aZ,aS]);refine⟨wpAnyH_done (by kernel_rfl) ?_ _⟩;clear a;go_wp2_with fail;go_ret;exact⟨rfl,E.o⟩
theorem I1_ (h:ii_ F c T l cs S s b1 b2 b3 b4 p P ps w) (W:p<3) (n k:Nat) (t:d_) (U:l[n]?=some k) (ht:T[k]?=some t) (ka:ov_ (t.get p)) (fb:ag_ (P.get p)) (G:F_ w) (J:as_ w) :
    Calls Tryz.prog 122 #[.int .i64 (n:Nat),.pointer (some ⟨b1,0,none⟩),.pointer (some ⟨b2,0,none⟩),.pointer (some ⟨b3,0,none⟩),.pointer (some ⟨b4,0,none⟩)] w (u_ (decide (0<G_ (t.get p) (P.get p))) w):=by
 obtain⟨d,C,x,y,A,t',ss,rfl,rfl,j,L,O,a4⟩:=h.r.stand U;rw[ht]at j;injection j with j;subst j;have HN:=q_ (show n<l.length from (List.getElem?_eq_some_iff.1 U).1);have HK:=q_ L;have HW:=q_ O;obtain⟨N,Z⟩:=a_ T.length;obtain⟨M,HM⟩:=a_ l.length;rw[HM.o]at HN;rw[Z.o]at HK;have z:=q_ W;have Y:=q_ (λ(w':World) (h':ln_ F c T l cs (.slice (some ⟨d,0,none⟩) T.length C) (.slice (some ⟨x,y,none⟩) l.length A) w')=>(O w' h').2 p W);have i:=q_ (ow_ (t.get p) (P.get p) (ss p) (ps p) w.drew ka fb (f_ G (Below.refl _ _).drew) (n_ J (Below.refl _ _).drew));unfold d4_ at i;unfold u_;obtain⟨u,B⟩:=a_ (c_ (t.get p) (ss p));obtain⟨V,m⟩:=a_ (c_ (P.get p) (ps p));obtain⟨q,X⟩:=a_ (G_ (t.get p) (P.get p));rw[B.o,m.o,X.o]at i;have Z6:=q_ (show u.size=6 from by rw[<-B.o];rfl);have a3:=q_ (show V.size=6 from by rw[<-m.o];rfl);rw[B.o]at Y;have I6:=q_ (am_.trans (congrArg some Z6.o.symm));have a0:=q_ (am_.trans (congrArg some a3.o.symm));rw[X.o];obtain⟨v,R⟩:=a_ (decide (0<q));have a2:=q_ R.o;rw[R.o];have D:=q_ h;clear B X R O h a4 U ht W L ka fb G J;go_enter Tryz.func122,Tryz.ntmps122
 go_upto_region 1 with fail;refine wp_region_held_drew (S:=λW'=>ii_ F c T l cs (.slice (some ⟨d,0,none⟩) T.length C) (.slice (some ⟨x,y,none⟩) l.length A) b1 b2 b3 b4 p P ps W') (by kernel_rfl) D.o.drew λa=>?_;refine V_.o ?_;refine J_ 0 7 (.pointer (some ⟨c,0,none⟩)) a (λw b=>?_) λa=>?_
 ·have g:=b.v1;unfold o_;go_simp
 (try simp only[Act.put,aT,aZ,aS]);refine v_ 1 8 (.pointer (some ⟨c,0,none⟩)) a λa=>?_;(try simp only[Act.put,aT,aZ,aS]);refine v_ 2 9 (.pointer (some ⟨c,0,none⟩)) a λa=>?_;(try simp only[Act.put,aT,aZ,aS]);refine J_ 3 10 (.slice (some ⟨d,0,none⟩) N C) a (λw b=>?_) λa=>?_
 ·have g:=b.r.st;rw[Z.o]at g;unfold o_;go_simp
 (try simp only[Act.put,aT,aZ,aS]);refine J_ 4 11 (.slice (some ⟨x,y,none⟩) M A) a (λw b=>?_) λa=>?_
 ·have g:=b.v2;rw[HM.o]at g;unfold o_;go_simp
 (try simp only[Act.put,aT,aZ,aS]);refine v_ 5 12 (.int .i64 (n:Nat)) a λa=>?_;(try simp only[Act.put,aT,aZ,aS]);refine J_ 6 13 (.pointer (some ⟨x,y+n,none⟩)) a (λw b=>?_) λa=>?_
 ·exact k_ (nf_ x y M A n HN.o w)
 (try simp only[Act.put,aT,aZ,aS]);refine J_ 7 14 (.int .i64 (k:Nat)) a (λw b=>?_) λa=>?_
 ·have g:=(HW.o w b.r).1;unfold o_;go_simp
 (try simp only[Act.put,aT,aZ,aS]);refine J_ 8 15 (.int .i64 (p:Nat)) a (λw b=>?_) λa=>?_
 ·have g:=b.v3;unfold o_;go_simp
 (try simp only[Act.put,aT,aZ,aS]);refine J_ 9 16 (.pointer (some ⟨d,k*18,none⟩)) a (λw b=>?_) λa=>?_
 ·exact k_ (gm_ d N C k HK.o w)
 (try simp only[Act.put,aT,aZ,aS]);refine J_ 10 17 (.pointer (some ⟨d,k*18+p*6,none⟩)) a (λw b=>?_) λa=>?_
 ·exact k_ (f6_ d (k*18) p z.o w)
 (try simp only[Act.put,aT,aZ,aS]);refine J_ 11 18 (.agg u) a (λw b=>?_) λa=>?_
 ·have f:=run_loadAt_mid (P:=Tryz.prog) w d (k*18+p*6) 39 u.toList _ (Y.o w b.r) Tryz.underlying39 rfl (by rw[Array.length_toList];exact I6.o);rw[Array.toArray_toList]at f;exact k_ f
 (try simp only[Act.put,aT,aZ,aS]);refine J_ 12 19 (.int .i64 (p:Nat)) a (λw b=>?_) λa=>?_
 ·have g:=b.v3;unfold o_;go_simp
 (try simp only[Act.put,aT,aZ,aS]);refine J_ 13 20 (.pointer (some ⟨b4,p*6,none⟩)) a (λw b=>?_) λa=>?_
 ·have f:=f6_ b4 0 p z.o w;rw[Nat.zero_add]at f;exact k_ f
 (try simp only[Act.put,aT,aZ,aS]);refine J_ 14 21 (.agg V) a (λw b=>?_) λa=>?_
 ·have f:=run_loadAt_mid (P:=Tryz.prog) w b4 (p*6) 39 V.toList _ (by rw[<-m.o];exact kf_ b.v4 z.o) Tryz.underlying39 rfl (by rw[Array.length_toList];exact a0.o);rw[Array.toArray_toList]at f;exact k_ f
 (try simp only[Act.put,aT,aZ,aS]);refine tkC 15 λK hK=>?_;change Oper.wp _ ⟨some 22,_,_,_,_,_⟩ _ _ _ _;go_simp;refine i.o.mono ?_;rintro e w2 ⟨rfl,I⟩;have E:=q_ (show Below w.heap.size w w2 from aa_ I);have a1:=q_ (D.o.on E.o);clear I i;dsimp only;refine hK.out _ _ a1.o λa=>?_;clear hK K;(try simp only[Act.put,aT,aZ,aS]);refine J_ 16 23 (.bool v) a (λw b=>?_) λa=>?_
 ·have g:=a2.o;unfold o_;go_simp
 (try simp only[Act.put,aT,aZ,aS]);refine v_ 17 6 (.bool v) a λa=>?_;(try simp only[Act.put,aT,aZ,aS]);refine⟨wpAnyH_done (by kernel_rfl) ?_ _⟩;clear a;go_wp2_with fail;go_ret;exact⟨rfl,E.o⟩
end
def s4_ (m:Nat) (w:World) (e:Ending) (w':World):Prop:=e = .returned (.int .i64 (m:Nat))/\Below w.heap.size w w'
theorem vi_:Tryz.prog.underlying 94=some (.slice (Tryz.prog.elem 94)):=by kernel_rfl
theorem vj_ (W:World):(sizeOf (Tryz.prog.elem 94)).run Tryz.prog W = .ok 1 W:=by kernel_rfl
theorem Fm_ {F:Nat->Prop} {w:World} {l:List Nat} {s:Value} (h:ih_ F w l s) {a b:Nat} (y:a<=b) (hb:b<=l.length) :
    ∃f m q,(∀W,(Instr.sliceAt 94 s (some (.int .i64 (a:Nat))) (some (.int .i64 (b:Nat))) none).run Tryz.prog W = .ok (.slice f m q) W)/\∀w',ih_ F w' l s->ih_ F w' ((l.take b).drop a) (.slice f m q):=by
 obtain⟨A,d,rfl,z,B⟩:=h;have e:((l.take b).drop a).length=b-a:=by rw[List.length_drop,List.length_take,Nat.min_eq_left hb]
 refine⟨if d=a then A else A.map (·.add (a*1)),b-a,d-a,λW=>?_,λw' u=>⟨_,_,by rw[e],by omega,λh0=>?_⟩⟩
 ·rw[run_sliceAt_slice (h:=vi_),run_slice_lh (ht:=vi_) (h0:=by omega) (h1:=by omega) (h2:=by omega),vj_ W];rfl
 ·obtain⟨f,x,g,_,j⟩:=u;injection g with g _ _;obtain⟨r,o,n,v,t⟩:=j (by omega);rw[<-g]at n;subst n;refine⟨r,o+a,?_,v,λi k hi=>?_⟩
  ·rw[if_neg (by omega)];show some (Addr.add ⟨r,o,none⟩ (a*1))=_;rw[Nat.mul_one,Addr.add_mid]
  ·rw[List.getElem?_drop,List.getElem?_take]at hi;split at hi
   ·rw[Nat.add_assoc];exact t (a+i) k hi
   ·cases hi
section
variable {F:Nat->Prop} {c:Nat} {T:List d_} {l:List Nat} {cs:Nat->Array Value} {S s:Value} {b1 b2 b3 b4 p:Nat} {P:d_} {ps:Nat->Value} {w w':World}
theorem I2_ (h:ii_ F c T l cs S s b1 b2 b3 b4 p P ps w) (L:p<3) (R:∀t,t∈T->bn_ t) (N:∀t,t∈T->∀n,ag_ (t.get n)) (U:∀n,ag_ (P.get n)) (z:F_ w) (B:as_ w) (W:l.length<=65536)
    (d:Nat->Int) (A:∀n t,T[n]?=some t->d n=G_ (t.get p) (P.get p)) (O:l.Pairwise λa b=>d a<=d b) :
    Calls Tryz.prog 120 #[.int .i64 (l.length:Nat),.func (.func 121) #[] #[.pointer (some ⟨b1,0,none⟩),.pointer (some ⟨b2,0,none⟩),.pointer (some ⟨b3,0,none⟩),.pointer (some ⟨b4,0,none⟩)]] w (s4_ (l.countP λx=>!decide (0<=d x)) w):=by
 refine (Any.sort_Search Tryz.searchL 121 #[.pointer (some ⟨b1,0,none⟩),.pointer (some ⟨b2,0,none⟩),.pointer (some ⟨b3,0,none⟩),.pointer (some ⟨b4,0,none⟩)] l.length (λi=>(λx=>decide (0<=d x)) (l.getD i 0)) w (enters_of Tryz.func121 (by kernel_rfl) rfl) (by omega) (λm os i hi=>?_) (λi v h1 h2 f=>?_)).mono λe w' ⟨j,q,os,G⟩=>⟨?_,?_⟩
 ·have g:=e1_ w m os;obtain⟨k,u⟩:∃k,l[i]?=some k:=⟨_,List.getElem?_eq_getElem hi⟩;have E:=h.r.lt k (List.mem_of_getElem? u);obtain⟨t,ht⟩:∃t,T[k]?=some t:=⟨_,List.getElem?_eq_getElem E⟩;have o:=List.mem_of_getElem? ht;have V:l.getD i 0=k:=by rw[List.getD_eq_getElem?_getD,u];rfl
  refine (Dn.calls_drawn (I0_ (h.on g) L i k t u ht ⟨((R t o).get p).2.1,N t o p⟩ (U p) (f_ z g) (n_ B g))).mono λe w' ⟨⟨j,C⟩,D⟩=>⟨?_,?_⟩
  ·rw[j];dsimp only;rw[V,A k t ht]
  ·exact Dn.grow_of_below C (D (by rw[j];exact λh=>by cases h))
 ·dsimp only at f ⊢;have hi:i<l.length:=by omega
  have M:l.getD i 0=l[i]:=by rw[List.getD_eq_getElem?_getD,List.getElem?_eq_getElem hi];rfl
  have J:l.getD v 0=l[v]:=by rw[List.getD_eq_getElem?_getD,List.getElem?_eq_getElem h2];rfl
  rw[M]at f;rw[J];have f:=of_decide_eq_true f;refine decide_eq_true ?_;rcases Nat.lt_or_eq_of_le h1 with y | y
  ·have:=List.pairwise_iff_getElem.1 O i v hi h2 y;omega
  ·subst y;exact f
 ·rw[j,j5_ (λx=>!decide (0<=d x)) l (λi=>!(λx=>decide (0<=d x)) (l.getD i 0)) (λi x I=>by dsimp only;rw[List.getD_eq_getElem?_getD,I];rfl)]
 ·rw[G];exact e1_ w q os
theorem I3_ (h:ii_ F c T l cs S s b1 b2 b3 b4 p P ps w) (L:p<3) (R:∀t,t∈T->bn_ t) (N:∀t,t∈T->∀n,ag_ (t.get n)) (U:∀n,ag_ (P.get n)) (z:F_ w) (B:as_ w) (W:l.length<=65536)
    (d:Nat->Int) (A:∀n t,T[n]?=some t->d n=G_ (t.get p) (P.get p)) (O:l.Pairwise λa b=>d a<=d b) :
    Calls Tryz.prog 120 #[.int .i64 (l.length:Nat),.func (.func 122) #[] #[.pointer (some ⟨b1,0,none⟩),.pointer (some ⟨b2,0,none⟩),.pointer (some ⟨b3,0,none⟩),.pointer (some ⟨b4,0,none⟩)]] w (s4_ (l.countP λx=>!decide (0<d x)) w):=by
 refine (Any.sort_Search Tryz.searchL 122 #[.pointer (some ⟨b1,0,none⟩),.pointer (some ⟨b2,0,none⟩),.pointer (some ⟨b3,0,none⟩),.pointer (some ⟨b4,0,none⟩)] l.length (λi=>(λx=>decide (0<d x)) (l.getD i 0)) w (enters_of Tryz.func122 (by kernel_rfl) rfl) (by omega) (λm os i hi=>?_) (λi v h1 h2 f=>?_)).mono λe w' ⟨j,q,os,G⟩=>⟨?_,?_⟩
 ·have g:=e1_ w m os;obtain⟨k,u⟩:∃k,l[i]?=some k:=⟨_,List.getElem?_eq_getElem hi⟩;have E:=h.r.lt k (List.mem_of_getElem? u);obtain⟨t,ht⟩:∃t,T[k]?=some t:=⟨_,List.getElem?_eq_getElem E⟩;have o:=List.mem_of_getElem? ht;have V:l.getD i 0=k:=by rw[List.getD_eq_getElem?_getD,u];rfl
  refine (Dn.calls_drawn (I1_ (h.on g) L i k t u ht ⟨((R t o).get p).2.1,N t o p⟩ (U p) (f_ z g) (n_ B g))).mono λe w' ⟨⟨j,C⟩,D⟩=>⟨?_,?_⟩
  ·rw[j];dsimp only;rw[V,A k t ht]
  ·exact Dn.grow_of_below C (D (by rw[j];exact λh=>by cases h))
 ·dsimp only at f ⊢;have hi:i<l.length:=by omega
  have M:l.getD i 0=l[i]:=by rw[List.getD_eq_getElem?_getD,List.getElem?_eq_getElem hi];rfl
  have J:l.getD v 0=l[v]:=by rw[List.getD_eq_getElem?_getD,List.getElem?_eq_getElem h2];rfl
  rw[M]at f;rw[J];have f:=of_decide_eq_true f;refine decide_eq_true ?_;rcases Nat.lt_or_eq_of_le h1 with y | y
  ·have:=List.pairwise_iff_getElem.1 O i v hi h2 y;omega
  ·subst y;exact f
 ·rw[j,j5_ (λx=>!decide (0<d x)) l (λi=>!(λx=>decide (0<d x)) (l.getD i 0)) (λi x I=>by dsimp only;rw[List.getD_eq_getElem?_getD,I];rfl)]
 ·rw[G];exact e1_ w q os
end
def s5_ (F:Nat->Prop) (T:List d_) (P:d_) (w:World) (e:Ending) (w':World):Prop:=
 ∃l a,e = .returned a/\su_ T P l/\ih_ F w' l a/\Below w.heap.size w w'
structure Fn_ (F:Nat->Prop) (c:Nat) (T:List d_) (cs:Nat->Array Value) (S:Value) (z z8:Nat) (P:d_) (ps:Nat->Value) (j:Nat) (w0:World) (e:Nat) (l:List Nat) (s:Value) (wx:World):Prop where
 r:ln_ F c T l cs S s wx
 v1:wx.cell? ⟨z,0,none⟩=some (.pointer (some ⟨c,0,none⟩))
 v2:wx.heap[z8]?=some (.cells #[s] 94 (0,0))
 v4:wx.heap[z+1]?=some (.cells (s_ P ps) 99 (0,0))
 hb:Below w0.heap.size w0 wx
 mid:gy_ (ak_ j) T P e l
 z8z:w0.heap.size<=z8/\z8≠z/\z8≠z+1
 ll:l.length<=65536
theorem Fn_.next {F:Nat->Prop} {c:Nat} {T:List d_} {cs:Nat->Array Value} {S:Value} {z f:Nat} {P:d_} {ps:Nat->Value} {j:Nat} {q:World} {e:Nat} {l:List Nat} {s:Value} {o m:World} (h:Fn_ F c T cs S z f P ps j q e l s o) (A:∀b,F b->b<q.heap.size) (hb:Below o.heap.size o m) {u:Nat} {i:List Nat} {g:Value}
    (t:gy_ (ak_ j) T P u i) (B:∀w',ih_ F w' l s->ih_ F w' i g) (y:i.length<=l.length):Fn_ F c T cs S z f P ps j q u i g (m.setCell ⟨f,0,none⟩ g):=by
 have ht:=(Turn.refl (λb=>b=f) m).setCell (p:=⟨f,0,none⟩) (.inr rfl) g;have d:=(h.r.on hb).turn ht (λb v e=>by have:=A b v;have:=h.z8z.1;omega);have v2:=(hb.block f (b_ h.v2)).trans h.v2;have v1:=(hb.cell (p:=⟨z,0,none⟩) (a2_ h.v1)).trans h.v1;have v4:=(hb.block (z+1) (b_ h.v4)).trans h.v4;have n:=h.hb.trans (hb.mono h.hb.size);refine⟨⟨d.st,d.row,B _ d.nums,t.lt,d.fc,d.fl⟩,?_,heap_setCell_same m f 0 _ _ g v2,ht.heap v4 (λe=>h.z8z.2.2 e.symm),n.trans ⟨ht.os,ht.tape,ht.output,ht.size,λk x=>ht.block k (Nat.lt_of_lt_of_le x n.size) (λe=>by have:=h.z8z.1;omega)⟩,t,h.z8z,Nat.le_trans y h.ll⟩;exact (World.cell?_of_block (a:=⟨z,0,none⟩) (ht.block z (a2_ v1) (λe=>h.z8z.2.1 e.symm))).trans v1
theorem I4_ {a b:Nat} (h:a<=b):max (a:Int) (b:Int)=(b:Nat):=by omega
theorem vk_ (a b1 b2:Bool) (W:World):(Instr.build 181 #[(0,.bool a),(1,.bool b1),(2,.bool b2)]).run Tryz.prog W = .ok (.agg #[.bool a,.bool b1,.bool b2]) W:=by kernel_rfl
theorem Fo_ (j e:Nat) (a:e<3) (W:World):(Instr.index 101 (.agg (e3_ (ak_ j))) (.int .i64 (e:Nat))).run Tryz.prog W = .ok (.int .i64 ((ak_ j).get e:Nat)) W:=by rcases (show e=0\/e=1\/e=2 by omega) with rfl | rfl | rfl<;>kernel_rfl
theorem Fp_ {F:Nat->Prop} {c:Nat} {T:List d_} {w:World} (h:en_ F w c T) (hF:∀b,F b->b<w.heap.size) (P:d_) (ps:Nat->Value) (fb:∀n,ag_ (P.get n)) (bb:F_ w) (bc:as_ w) :
    Calls Tryz.prog 60 #[.pointer (some ⟨c,0,none⟩),.agg (s_ P ps)] w (s5_ F T P w):=by
 obtain⟨S,ss,cs,h1,h2,h3⟩:=h.cells;have L:=q_ h;have HF:=q_ hF;have ag:=q_ (And.intro h1 (And.intro h2 h3));have cb:=q_ fb;have HG:=q_ (And.intro bb bc);clear h1 h2 h3 h hF fb bb bc;obtain⟨c8,bd⟩:=ah_ P ps;obtain⟨z,Hz⟩:=a_ w.heap.size;obtain⟨i,G⟩:=a_ ((w.alloc (.cells #[.pointer (some ⟨c,0,none⟩)] 29)).alloc (.cells c8 99));have bt:=q_ (show Below w.heap.size w i from by rw[<-G.o];exact L_ w _ _);have ar:=q_ (show i.heap[z]?=some (.cells #[.pointer (some ⟨c,0,none⟩)] 29 (0,0)) from by rw[<-G.o,<-Hz.o];exact heap_alloc2_old w _ _);have bk:=q_ (show i.heap[z+1]?=some (.cells c8 99 (0,0)) from by rw[<-G.o,<-Hz.o];exact heap_alloc2_new w _ _);have a3:=q_ (show i.heap[z+1]?=some (.cells (s_ P ps) 99 (0,0)) from by rw[bd.o];exact bk.o);have U:i.cell? ⟨z+1,0,none⟩=some (.int .i64 (P.get 0).kind):=cell_of_heap a3.o 0;have O:i.cell? ⟨z+1,6,none⟩=some (.int .i64 (P.get 1).kind):=cell_of_heap a3.o 6;have q2:i.cell? ⟨z+1,12,none⟩=some (.int .i64 (P.get 2).kind):=cell_of_heap a3.o 12;obtain⟨k0,cg⟩:=a_ (P.get 0).kind;obtain⟨k1,cz⟩:=a_ (P.get 1).kind;obtain⟨k2,cp⟩:=a_ (P.get 2).kind;rw[cg.o]at U;rw[cz.o]at O;rw[cp.o]at q2;have HQ:=q_ (And.intro U (And.intro O q2));clear U O q2;rw[bd.o];go_enter Tryz.func60,Tryz.ntmps60
 go_upto_region 2 with fail;rw[G.o,Hz.o];clear G;obtain⟨b0,B0⟩:=a_ (k0 != 0);obtain⟨b1,B1⟩:=a_ (k1 != 0);obtain⟨b2,B2⟩:=a_ (k2 != 0);have U:=HQ.o.1;have O:=HQ.o.2.1;have q2:=HQ.o.2.2;have ct:=B0.o;have cx:=B1.o;have cm:=B2.o;obtain⟨z6,J⟩:=a_ i.heap.size;have f:=q_ (show (i.alloc (.cells #[.bool false,.bool false,.bool false] 181)).heap[z6]?=some (.cells #[.bool false,.bool false,.bool false] 181 (0,0)) from by rw[<-J.o];exact heap_alloc_new i _)
 go_upto_block 0 with (first
  | ((with_reducible refine e_ (some 27) ?_);refine O_ rfl 181 _ rfl #[(0,.bool b0),(1,.bool b1),(2,.bool b2)] rfl (.agg #[.bool b0,.bool b1,.bool b2]) (vk_ b0 b1 b2 _) ?_)
  | ((with_reducible refine z_ 6 ?_);refine r_ rfl 181 _ _ rfl z6 (#[.bool false,.bool false,.bool false]) #[.bool b0,.bool b1,.bool b2] 181 (by rw[<-J.o];rfl) rfl f.o rfl (by kernel_rfl) (by kernel_rfl) ?_;intro w2 bn ae))
 rw[J.o];have bi:=q_ (bt.o.trans ((cn_ (w5:=w2) (by rw[J.o];exact ae)).mono bt.o.size));have bp:=q_ (show Below i.heap.size i w2 from cn_ (w5:=w2) (by rw[J.o];exact ae));have af:=q_ bn;clear bn ae f U O q2 ct cx cm HQ;simp only[Act.put];go_cut [5] (λs5 wx=>∃j:Nat,j<6/\s5 = .string (fe_ j)/\wx=w2)
 case first=>
  have a0:w2.cell? ⟨z6,0,none⟩=some (.bool b0):=cell_of_heap af.o 0;have a1:w2.cell? ⟨z6,1,none⟩=some (.bool b1):=cell_of_heap af.o 1;have a2:w2.cell? ⟨z6,2,none⟩=some (.bool b2):=cell_of_heap af.o 2
  cases b0<;>cases b1<;>cases b2
  all_goals go_wp2_with fail
  all_goals first
   | (go_meet;exact⟨0,by omega,rfl,rfl⟩)
   | (go_meet;exact⟨1,by omega,rfl,rfl⟩)
   | (go_meet;exact⟨2,by omega,rfl,rfl⟩)
   | (go_meet;exact⟨3,by omega,rfl,rfl⟩)
   | (go_meet;exact⟨4,by omega,rfl,rfl⟩)
 case rest=>
  obtain⟨j,hj,rfl,rfl⟩:=hcut;have HJ:=q_ hj;clear hj;go_wp2_with fail;refine (za_ j HJ.o _).mono ?_;unfold ip_;rintro e w3 ⟨rfl,au⟩;have am:=q_ (bi.o.trans (au.mono bi.o.size));have R:=q_ (bp.o.trans (au.mono bp.o.size));clear au;obtain⟨wq,aa⟩:=a_ (e3_ (ak_ j));have ZQ:=q_ (show wq.size=3 from by rw[<-aa.o];rfl);have co:=q_ (show wq.all (·.oneCell')=true from by rw[<-aa.o];kernel_rfl);rw[aa.o];obtain⟨zq,a8⟩:=a_ w3.heap.size;have c3:=q_ (show (w3.alloc (.cells #[.int .i64 0,.int .i64 0,.int .i64 0] 101)).heap[zq]?=some (.cells #[.int .i64 0,.int .i64 0,.int .i64 0] 101 (0,0)) from by rw[<-a8.o];exact heap_alloc_new w3 _);have bq:=q_ (show (Tryz.prog.info? 101).map (·.size)=some wq.size from by rw[ZQ.o];kernel_rfl);go_upto_region 12 with ((with_reducible refine z_ 7 ?_);refine r_ rfl 101 _ _ rfl zq (#[.int .i64 0,.int .i64 0,.int .i64 0]) wq 101 (by rw[<-a8.o];rfl) rfl c3.o ZQ.o bq.o co.o ?_;intro q c2 bu)
  rw[a8.o];have ad:=q_ (show Below w3.heap.size w3 q from cn_ (w5:=q) (by rw[a8.o];exact bu));have E:=q_ (am.o.trans (ad.o.mono am.o.size));have k:=q_ (R.o.trans (ad.o.mono R.o.size));have bj:=q_ c2;clear c2 bu c3;obtain⟨ix,a6,av⟩:=ag.o.2.2 j HJ.o;obtain⟨A2,B,es,_,_⟩:=id av;obtain⟨M,d⟩:=a_ ix.length;rw[d.o]at es;have a9:=q_ (show q.heap[c]?=some (.cells #[S,ss 0,ss 1,ss 2,ss 3,ss 4,ss 5] 97 (0,0)) from (E.o.block c (HF.o c L.o.fc)).trans ag.o.1);have U:q.cell? ⟨c,1+j,none⟩=some (.slice A2 M B):=by rw[<-es];rcases (show j=0\/j=1\/j=2\/j=3\/j=4\/j=5 by have:=HJ.o;omega) with rfl | rfl | rfl | rfl | rfl | rfl<;>exact cell_of_heap a9.o _
  have Y:=q_ ((k.o.block z (b_ ar.o)).trans ar.o);have O:q.cell? ⟨z,0,none⟩=some (.pointer (some ⟨c,0,none⟩)):=cell_of_heap Y.o 0;obtain⟨g,ap⟩:=a_ q.heap.size;obtain⟨w5,Z⟩:=a_ (q.alloc (.cells #[.slice A2 M B] 94));have y:=q_ (show Below q.heap.size q w5 from by rw[<-Z.o];exact (Below.refl _ _).alloc (Nat.le_refl _) _);have ah:=q_ (E.o.trans (y.o.mono E.o.size));have bg:=q_ (show w5.heap[g]?=some (.cells #[.slice A2 M B] 94 (0,0)) from by rw[<-Z.o,<-ap.o];exact heap_alloc_new q _);have bl:=q_ (λW=>ne_ c j HJ.o W);go_upto_region 13 with ((with_reducible refine e_ (some 78) ?_);refine ek_ rfl (.pointer (some ⟨c,1+j,none⟩)) (k_ (bl.o _)) ?_)
  rw[ap.o,Z.o];clear Z U O bl;have cq:q.heap.size=g:=ap.o;have cv:=b_ ar.o;have bh:=b_ bk.o;have ci:=k.o.size;have ch:=q_ ((y.o.block zq (b_ bj.o)).trans bj.o)
  have cj:=q_ (show Fn_ F c T cs S z g P ps j w 0 ix (.slice A2 M B) w5 from by
   have hk:∀b,F b->w5.heap[b]?=w.heap[b]?:=λb hb=>ah.o.block b (HF.o b hb);refine⟨⟨?_,ag.o.2.1.keep λp hp=>World.cell?_of_block (hk _ hp),?_,λn hn=>a6.lt hn,L.o.fc,λb hb=>Nat.lt_of_lt_of_le (HF.o b hb) ah.o.size⟩,?_,bg.o,?_,ah.o,gy_.start a6 P,⟨?_,by omega,by omega⟩,?_⟩
   ·exact cell_of_heap ((y.o.block c (b_ a9.o)).trans a9.o) 0
   ·rw[<-es];exact av.keep λp hp=>World.cell?_of_block (hk _ hp)
   ·exact cell_of_heap ((y.o.block z (b_ Y.o)).trans Y.o) 0
   ·exact ((k.o.trans (y.o.mono k.o.size)).block (z+1) bh).trans a3.o
   ·have:=E.o.size;omega
   ·rw[a6.len];exact L.o.len)
  clear a6 av es d cq cv bh ci bg y E k ad am R a9 Y;go_upto_region 14 with ((with_reducible refine e_ (some 80) ?_);refine A_ rfl 101 _ rfl zq 0 rfl wq _ (p_ ch.o) Tryz.underlying101 rfl bq.o ?_)
  go_loopw [81] (λs wx=>∃(e:Nat) (l:List Nat) (sl:Value),e<=3/\s = .int .i64 (e:Nat)/\Q_ (Fn_ F c T cs S z g P ps j w e l sl wx)) (λs _=>3-(intOf s).toNat)
  case atStart=>exact⟨0,ix,_,by omega,rfl,cj⟩
  case round=>
   obtain⟨e,l,sl,he,rfl,d⟩:=hrel;obtain⟨A,u,rfl,d1,_⟩:=id d.o.r.nums;have cc:=q_ (show s5_ F T P w (.returned (.slice A l.length u)) wr from ⟨l,_,rfl,d.o.mid.near,d.o.r.nums,d.o.hb⟩);have ac:=q_ (show wr.cell? ⟨g,0,none⟩=some (.slice A l.length u) from cell_of_heap d.o.v2 0);by_cases bs:e<3
   ·have HE:=q_ bs;have D:=q_ ((dd_ j).lt e);have V:=q_ (λW=>Fo_ j e HE.o W);obtain⟨p,HP⟩:=a_ ((ak_ j).get e);rw[HP.o]at V D;rw[aa.o]at V;have e1:(e:Int)<3:=by omega
    obtain⟨zk,br⟩:=a_ wr.heap.size;obtain⟨w6,a7⟩:=a_ (wr.alloc (.cells #[.int .i64 (p:Nat)] 3));have f:=q_ (show Below wr.heap.size wr w6 from by rw[<-a7.o];exact (Below.refl _ _).alloc (Nat.le_refl _) _);have ck:=q_ (show w6.heap[zk]?=some (.cells #[.int .i64 (p:Nat)] 3 (0,0)) from by rw[<-a7.o,<-br.o];exact heap_alloc_new wr _);go_upto_region 16 with ((with_reducible refine e_ (some 83) ?_);refine ek_ rfl (.int .i64 (p:Nat)) (k_ (V.o _)) ?_)
    rw[br.o,a7.o];clear a7 e1
    have HV:=q_ (show ii_ F c T l cs S (.slice A l.length u) z g zk (z+1) p P ps w6 from
     ⟨d.o.r.on f.o,(f.o.cell (p:=⟨z,0,none⟩) (a2_ d.o.v1)).trans d.o.v1,(f.o.cell (p:=⟨g,0,none⟩) (a2_ ac.o)).trans ac.o,cell_of_heap ck.o 0,(f.o.block (z+1) (b_ d.o.v4)).trans d.o.v4⟩)
    have C:=q_ (d.o.hb.trans (f.o.mono d.o.hb.size));have b7:=q_ (show s5_ F T P w (.returned (.slice A l.length u)) w6 from ⟨l,_,rfl,d.o.mid.near,(d.o.r.on f.o).nums,C.o⟩);have a5:=q_ (λW=>(show (Instr.indexAt 99 (.pointer (some ⟨z+1,0,none⟩)) (.int .i64 (p:Nat))).run Tryz.prog W = .ok (.pointer (some ⟨z+1,p*6,none⟩)) W from by have q9:=f6_ (z+1) 0 p D.o W;rwa [Nat.zero_add]at q9));obtain⟨kd,bx⟩:=a_ (P.get p).kind;have b9:=q_ (λ(W:World) (N:W.heap[z+1]?=some (.cells (s_ P ps) 99 (0,0)))=>(show W.cell? ⟨z+1,p*6,none⟩=some (.int .i64 kd) from by have:=kf_ N D.o 0 (.int .i64 (P.get p).kind) rfl;rw[Nat.add_zero,bx.o]at this;exact this));have q3:=HV.o.v3;have q4:=b9.o w6 HV.o.v4;have v:=HV.o.v2;obtain⟨kp,d0⟩:=a_ (p*6);rw[d0.o]at a5 q4;by_cases a4:kd=0
    ·subst a4;go_wp2_with ((with_reducible refine e_ (some 85) ?_);refine ek_ rfl (.pointer (some ⟨z+1,kp,none⟩)) (k_ (a5.o _)) ?_)
     go_ret;exact b7.o
    ·have cl:(kd==0)=false:=by rw[beq_eq_false_iff_ne];exact a4
     have cn:=q_ a4;go_upto_region 17 with ((with_reducible refine e_ (some 85) ?_);refine ek_ rfl (.pointer (some ⟨z+1,kp,none⟩)) (k_ (a5.o _)) ?_)
     clear q4 cl a4 q3 v;have c6:=q_ d.o.ll;let m:Nat->Int:=λn=>G_ ((T.getD n mg_).get p) (P.get p)
     have I:∀n t,T[n]?=some t->m n=G_ (t.get p) (P.get p):=λn t ht=>by
      show G_ ((T.getD n mg_).get p) (P.get p)=_;rw[List.getD_eq_getElem?_getD,ht];rfl
     have X:l.Pairwise λa b=>m a<=m b:=d.o.mid.mono HE.o m (by rw[HP.o];exact I);have aw:=d.o.mid.next (dd_ j) (by rw[HP.o,bx.o];exact cn.o) m (by rw[HP.o];exact I);have ay:=Av_ m l X;have b6:=λ(W:World) (N:ii_ F c T l cs S (.slice A l.length u) z g zk (z+1) p P ps W) (hb:Below w.heap.size w W)=>I2_ N D.o L.o.scal L.o.fit cb.o (f_ HG.o.1 hb) (n_ HG.o.2 hb) c6.o m I X;have ao:=λ(W:World) (N:ii_ F c T l cs S (.slice A l.length u) z g zk (z+1) p P ps W) (hb:Below w.heap.size w W)=>I3_ N D.o L.o.scal L.o.fit cb.o (f_ HG.o.1 hb) (n_ HG.o.2 hb) c6.o m I X;obtain⟨lo,bz⟩:=a_ (l.countP λx=>!decide (0<=m x));obtain⟨hi,c1⟩:=a_ (l.countP λx=>!decide (0<m x));rw[bz.o]at b6 ay;rw[c1.o]at ao ay;obtain⟨ak,c5,bo⟩:=ay;rw[<-bo]at aw;obtain⟨A9,n9,c9,bf,c0⟩:=Fm_ d.o.r.nums ak c5;have cy:=q_ b6;have cu:=q_ ao;have bm:=q_ aw;have ba:=q_ bf;have c4:=q_ c0;have cr:=q_ (I4_ ak);have aq:=q_ d.o;clear b6 ao bo aw bf c0 I X bz c1 ak c5 d a5 V b9;clear m;have az:=q_ HV.o;obtain⟨s9,H9⟩:=a_ ((l.take hi).drop lo);have ca:=q_ (show ((l.take hi).drop lo).length<=l.length from by rw[List.length_drop,List.length_take];omega);rw[H9.o]at bm c4 ca;clear H9;have v:=az.o.v2;have d2:=q_ (λ(W:World) (N:ii_ F c T l cs S (.slice A l.length u) z g zk (z+1) p P ps W)=>N.v2);obtain⟨n,Hn⟩:=a_ l.length;rw[Hn.o]at ba v;go_wp2_with fail;have c7:=cy.o w6 az.o C.o;rw[Hn.o]at c7;refine c7.mono ?_;clear c7;unfold s4_;rintro e7 w7 ⟨rfl,ab⟩;have b8:=q_ (f.o.trans (ab.mono f.o.size));have b5:=q_ (az.o.on ab);have cd:=q_ (C.o.trans (ab.mono C.o.size));clear ab v;have v:=b5.o.v2;rw[Hn.o]at v;go_wp2_with fail;have aj:=cu.o w7 b5.o cd.o;rw[Hn.o]at aj;refine aj.mono ?_;clear aj;unfold s4_;rintro e8 w8 ⟨rfl,ai⟩;have bw:=q_ (b8.o.trans (ai.mono b8.o.size));have cw:=q_ (b5.o.on ai);clear ai v;have v:=cw.o.v2;rw[Hn.o]at v;have m1:=cr.o;have h8:=(bw.o.block g (b_ aq.o.v2)).trans aq.o.v2;have f8:w8.frozen? ⟨g,0,none⟩=false:=Lib.frozen_of_heap h8 0;clear h8;have ce:=q_ (aq.o.next HF.o bw.o bm.o c4.o ca.o);go_wp2_with ((with_reducible refine e_ (some 102) ?_);refine ek_ rfl (.slice A9 n9 c9) (k_ (ba.o _)) ?_)
     go_roundw
     case rel=>exact⟨e+1,s9,.slice A9 n9 c9,by omega,by first | rfl | go_num,ce⟩
     case measure=>simp[intOf];omega
   ·have e3:e=3:=by omega
    subst e3;have v:=ac.o;clear d bs;go_wp2_with fail;go_ret;exact cc.o
theorem I5_ (A B:Option Addr) (ca q cb:Nat) (f:Value) (w:World) :
    Calls Tryz.prog 193 #[.slice A 0 ca,.slice B q cb,f] w (u_ (decide (q=0)) w):=by
 unfold u_;by_cases h:q=0
 ·subst h;go_enter Tryz.func193,Tryz.ntmps193
  go_wp2_with fail;go_loopw [17] (λs a=>s = .int .i64 0/\a=w) (λ_ _=>0)
  case atStart=>exact⟨rfl,rfl⟩
  case round=>
   obtain⟨rfl,rfl⟩:=hrel;go_wp2_with fail;go_ret;exact⟨rfl,Below.refl _ _⟩
 ·have d:((0:Int) != (q:Int))=true:=by simp;omega
  have b:decide (q=0)=false:=decide_eq_false h;rw[b];go_enter Tryz.func193,Tryz.ntmps193
  go_wp2_with fail;go_ret;exact⟨rfl,Below.refl _ _⟩
theorem lp_ (a b:h_) (L:a.list=[]) (A B:Option Addr) (ca cb:Nat) (w:World) :
    Calls Tryz.prog 123 #[.agg (c_ a (.slice A 0 ca)),.agg (c_ b (.slice B b.list.length cb))] w (u_ (bh_ a b) w):=by
 obtain⟨k,t,n,s,x,l⟩:=a;obtain⟨D,z,u,m,j,h⟩:=b;simp only[h_.list]at L;subst L;unfold c_;simp only[h_.kind,h_.truth,h_.num,h_.text,h_.extra,h_.list];obtain⟨q,N⟩:=a_ h.length;rw[N.o];have i:=q_ (L_ w (.cells #[.int .i64 k,.bool t,.int .i64 n,.string s,.string x,.slice A 0 ca] 39) (.cells #[.int .i64 D,.bool z,.int .i64 u,.string m,.string j,.slice B q cb] 39));have J:=q_ (λ(f:Value) (W:World)=>I5_ A B ca q cb f W);by_cases h1:k=D
 ·subst h1;by_cases h2:t=z
  ·subst h2;by_cases C:n=u
   ·subst C;by_cases E:s=m
    ·subst E;by_cases G:x=j
     ·subst G
      have hb:decide (q=0)=bh_ (.mk k t n s x []) (.mk k t n s x h):=by
       unfold bh_;rw[<-N.o]
       cases h with
       | nil=>simp
       | cons y r=>simp
      have I:=q_ hb;unfold u_ at J;obtain⟨v,M⟩:=a_ (decide (q=0));rw[M.o]at J I;clear hb M;go_enter Tryz.func123,Tryz.ntmps123
      go_wp2_with fail;refine (J.o _ _).mono ?_;rintro e w5 ⟨rfl,O⟩;go_wp2_with fail;go_ret;exact x_ I.o (i.o.trans (O.mono i.o.size))
     ·have t5:=bi_ G;have d:=b2_ (a:=.mk k t n s x []) (b:=.mk k t n s j h) (by simp[G]);have g:=q_ d;clear d G;go_enter Tryz.func123,Tryz.ntmps123
      go_wp2_with fail;go_ret;exact x_ g.o.symm i.o
    ·have R:=bi_ E;have d:=b2_ (a:=.mk k t n s x []) (b:=.mk k t n m j h) (by simp[E]);have g:=q_ d;clear d E;go_enter Tryz.func123,Tryz.ntmps123
     go_wp2_with fail;go_ret;exact x_ g.o.symm i.o
   ·have U:(n==u)=false:=by simpa using C
    have d:=b2_ (a:=.mk k t n s x []) (b:=.mk k t u m j h) (by simp[C]);have g:=q_ d;clear d C;go_enter Tryz.func123,Tryz.ntmps123
    go_wp2_with fail;go_ret;exact x_ g.o.symm i.o
  ·have X:(t==z)=false:=by simpa using h2
   have d:=b2_ (a:=.mk k t n s x []) (b:=.mk k z u m j h) (by simp[h2]);have g:=q_ d;clear d h2;go_enter Tryz.func123,Tryz.ntmps123
   go_wp2_with fail;go_ret;exact x_ g.o.symm i.o
 ·have V:(k==D)=false:=by simpa using h1
  have d:=b2_ (a:=.mk k t n s x []) (b:=.mk D z u m j h) (by simp[h1]);have g:=q_ d;clear d h1;go_enter Tryz.func123,Tryz.ntmps123
  go_wp2_with fail;go_ret;exact x_ g.o.symm i.o
end Go.Proofs.YtefhfadjajcmkaaGreatDoor
