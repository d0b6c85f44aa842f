/- The image of triples is no graph too great for the machine. -/
import Derived.Test.YtefhfadjajcmkaaGreatDoorJJ
import Derived.Laws.AppendOwnNone
set_option linter.unusedVariables false
set_option linter.unusedSimpArgs false
namespace Go.Proofs.YtefhfadjajcmkaaGreatDoor
open Go.Lib (cell_of_heap)
section
open Go Go.RowKit
theorem po_ {α : Type} {R:bj_ α} (f:R.Good) {E sz q j lo k:Nat} {w5 w6 w7:World} {xs:List α} {A3:Option Addr} {c3:Nat} {cs:Nat->Array Value} {x:α} {c:Array Value} {g7 c7:Nat}
    (T:q<lo) (O:lo<=w5.heap.size) (d:xs.length=k) (r:∀b,(Value.slice A3 k c3).ownBlock=some b->lo<=b/\b<w5.heap.size) (u:∀i,i<k->(cs i).size=sz) (J:∀i x,xs[i]?=some x->R w5 (λb=>(lo<=b/\b<w5.heap.size)/\(Value.slice A3 k c3).ownBlock≠some b) x (cs i))
    (h:Below w5.heap.size w5 w6) (t:R w6 (λb=>w5.heap.size<=b/\b<w6.heap.size) x c) (C:c.size=sz) (o:w6.grownBy w7 (Value.slice A3 k c3).ownBlock) (m:(Value.slice A3 k c3).ownBlock=some g7\/g7=w6.heap.size+1)
    (v:w7.ownsRow 0 E sz (.slice (some ⟨g7,0,none⟩) (k+1) c7) (k+1) (N_ cs k++c.toList)) :
    B_ E sz R (w7.setCell ⟨q,j,none⟩ (.slice (some ⟨g7,0,none⟩) (k+1) c7)) (λb=>lo<=b/\b<(w7.setCell ⟨q,j,none⟩ (.slice (some ⟨g7,0,none⟩) (k+1) c7)).heap.size) (xs++[x]) (.slice (some ⟨g7,0,none⟩) (k+1) c7) /\
     Turn (λb=>some b=(Value.slice A3 k c3).ownBlock\/b=q) w6 (w7.setCell ⟨q,j,none⟩ (.slice (some ⟨g7,0,none⟩) (k+1) c7)):=by
 have M:w5.heap.size<=w6.heap.size:=h.size;have L:w6.heap.size<=w7.heap.size:=o.size;have N:g7<w7.heap.size:=(v.lt g7 rfl).2
 have g:=hv_ (w5:=w6) (w6:=w7) (R:=R) (E:=E) (sz:=sz) (F:=λb=>lo<=b/\b<w5.heap.size) (G:=λb=>w5.heap.size<=b/\b<w6.heap.size) (l:=xs) (x:=x) (s:=.slice A3 k c3) (c:=c) (g4:=g7) (c4:=c7) (cs:=cs) f
  (λi hi=>u i (by omega)) (λi y I=>f.keep (J i y I) (λp D=>h.cell (by have:=D.1.2;omega))) t C (λb hb e=>by have:=(r b e).2;have:=hb.1;omega) (λb hb=>by have:=hb.2;omega) (λb hb=>hb.2) (by rw[d];exact v) o (by rcases m with e | e;exact .inl e;exact .inr (by omega))
 rw[d]at g
 have B:Turn (λb=>some b=(Value.slice A3 k c3).ownBlock\/b=q) w6 (w7.setCell ⟨q,j,none⟩ (.slice (some ⟨g7,0,none⟩) (k+1) c7)):=
  ((Turn.of_grown o).mono (λb _ hb=>.inl hb)).trans (((Turn.refl (λb=>b=q) w7).setCell (p:=⟨q,j,none⟩) (.inr rfl) _).mono (λb _ hb=>.inr hb))
 refine⟨(g.turn f ((Turn.refl (λb=>b=q) w7).setCell (p:=⟨q,j,none⟩) (.inr rfl) _) (λb hb=>?_) (λb hb e=>?_)).mono f (λb hb=>?_),B⟩
 ·rcases hb with hb | hb | hb
  ·omega
  ·omega
  ·omega
 ·rcases hb with hb | hb | hb
  ·omega
  ·omega
  ·rcases m with h1 | h1
   ·have:=(r g7 h1).1;omega
   ·omega
 ·show lo<=b/\b<(w7.setCell _ _).heap.size;simp only[World.size_setCell];rcases hb with hb | hb | hb
  ·omega
  ·omega
  ·rcases m with h1 | h1
   ·have:=(r g7 h1).1;omega
   ·omega
structure Pl1 (w:World) (z:Nat) (ns:List i_) (Ns:Value) (wr:World):Prop where
 below:Below z w wr
 res:wr.heap[z]?=some (.cells #[.slice none 0 0,.slice none 0 0] 54 (0,0))
 box:wr.heap[z+1]?=some (.cells #[Ns,.slice none 0 0] 54 (0,0))
 own:B_ 72 3 NoR wr (λb=>z+2<=b/\b<wr.heap.size) ns Ns
structure Pl2 (w:World) (z z2:Nat) (ns:List i_) (es:List m_) (Ns Es:Value) (wr:World):Prop where
 below:Below z w wr
 res:wr.heap[z]?=some (.cells #[.slice none 0 0,.slice none 0 0] 54 (0,0))
 box:wr.heap[z+1]?=some (.cells #[Ns,Es] 54 (0,0))
 nodes:B_ 72 3 NoR wr (λb=>z+2<=b/\b<z2) ns Ns
 own:B_ 74 5 EdR wr (λb=>z2<=b/\b<wr.heap.size) es Es
 loc:z+2<=z2/\z2<=wr.heap.size
section
variable {w:World} {z z2:Nat} {ns:List i_} {es:List m_} {Ns Es:Value} {wr w2:World}
theorem Pl1.on (h:Pl1 w z ns Ns wr) (hb:Below wr.heap.size wr w2):Pl1 w z ns Ns w2:=by have hz:=b_ h.box;exact⟨h.below.trans (hb.mono (by omega)),(hb.block _ (by omega)).trans h.res,(hb.block _ hz).trans h.box,(h.own.turn NoR.good (Turn.of_below hb) (λb hb=>hb.2) (λb hb h=>by omega)).mono NoR.good (λb d=>⟨d.1,Nat.lt_of_lt_of_le d.2 hb.size⟩)⟩
theorem Pl2.on (h:Pl2 w z z2 ns es Ns Es wr) (hb:Below wr.heap.size wr w2):Pl2 w z z2 ns es Ns Es w2:=by
 have hz:=b_ h.box;have e:=h.loc
 exact⟨h.below.trans (hb.mono (by omega)),(hb.block _ (by omega)).trans h.res,(hb.block _ hz).trans h.box,h.nodes.turn NoR.good (Turn.of_below hb) (λb hb=>by omega) (λb hb h=>by omega),
  (h.own.turn EdR.good (Turn.of_below hb) (λb hb=>hb.2) (λb hb h=>by omega)).mono EdR.good (λb d=>⟨d.1,Nat.lt_of_lt_of_le d.2 hb.size⟩),e.1,Nat.le_trans e.2 hb.size⟩
theorem Pl1.next (h:Pl1 w z ns Ns wr):Pl2 w z wr.heap.size ns [] Ns (.slice none 0 0) wr:=by have hz:=b_ h.box;exact⟨h.below,h.res,h.box,h.own,B_.nil ..,by omega,Nat.le_refl _⟩
end
theorem Pl1.more {w:World} {z k:Nat} {ns:List i_} {A3:Option Addr} {c3:Nat} {w5 w6 w7:World} {cs:Nat->Array Value} {v:i_} {c:Array Value} {g7 c7:Nat}
    (h:Pl1 w z ns (.slice A3 k c3) w5) (m:ns.length=k) (p:∀b,(Value.slice A3 k c3).ownBlock=some b->z+2<=b/\b<w5.heap.size) (y:∀i,i<k->(cs i).size=3) (I:∀i x,ns[i]?=some x->NoR w5 (λb=>(z+2<=b/\b<w5.heap.size)/\(Value.slice A3 k c3).ownBlock≠some b) x (cs i))
    (d:Below w5.heap.size w5 w6) (C:NoR w6 (λb=>w5.heap.size<=b/\b<w6.heap.size) v c) (D:c.size=3) (o:w6.grownBy w7 (Value.slice A3 k c3).ownBlock) (G:(Value.slice A3 k c3).ownBlock=some g7\/g7=w6.heap.size+1)
    (F:w7.ownsRow 0 72 3 (.slice (some ⟨g7,0,none⟩) (k+1) c7) (k+1) (N_ cs k++c.toList)) :
    Pl1 w z (ns++[v]) (.slice (some ⟨g7,0,none⟩) (k+1) c7) (w7.setCell ⟨z+1,0,none⟩ (.slice (some ⟨g7,0,none⟩) (k+1) c7)):=by
 have hz:=b_ h.box;have r:=h.on d;have J:w5.heap.size<=w6.heap.size:=d.size;have L:w6.heap.size<=w7.heap.size:=o.size;obtain⟨u,t⟩:=po_ (q:=z+1) (j:=0) (lo:=z+2) NoR.good (by omega) (by omega) m p y I d C D o G F;have g:∀b,b<z+2->some b≠(Value.slice A3 k c3).ownBlock:=λb hb e=>by have:=(p b e.symm).1;omega
 refine⟨r.below.trans (t.below (B:=z) (λi _ hi=>?_) (by omega)),(t.block _ (by omega) (λf=>?_)).trans r.res,?_,u⟩
 ·rcases hi with hi | hi
  ·have:=(p i hi.symm).1;omega
  ·omega
 ·rcases f with f | f
  ·exact g _ (by omega) f
  ·omega
 ·exact heap_setCell_same w7 (z+1) 0 _ _ _ ((o.block (z+1) (by omega) (g _ (by omega))).trans r.box)
theorem Pl2.more {w:World} {z z2 k:Nat} {ns:List i_} {es:List m_} {Ns:Value} {A3:Option Addr} {c3:Nat} {w5 w6 w7:World} {cs:Nat->Array Value} {C:m_} {c:Array Value} {g7 c7:Nat}
    (h:Pl2 w z z2 ns es Ns (.slice A3 k c3) w5) (p:es.length=k) (u:∀b,(Value.slice A3 k c3).ownBlock=some b->z2<=b/\b<w5.heap.size) (D:∀i,i<k->(cs i).size=5) (J:∀i x,es[i]?=some x->EdR w5 (λb=>(z2<=b/\b<w5.heap.size)/\(Value.slice A3 k c3).ownBlock≠some b) x (cs i))
    (m:Below w5.heap.size w5 w6) (v:EdR w6 (λb=>w5.heap.size<=b/\b<w6.heap.size) C c) (G:c.size=5) (t:w6.grownBy w7 (Value.slice A3 k c3).ownBlock) (F:(Value.slice A3 k c3).ownBlock=some g7\/g7=w6.heap.size+1)
    (I:w7.ownsRow 0 74 5 (.slice (some ⟨g7,0,none⟩) (k+1) c7) (k+1) (N_ cs k++c.toList)) :
    Pl2 w z z2 ns (es++[C]) Ns (.slice (some ⟨g7,0,none⟩) (k+1) c7) (w7.setCell ⟨z+1,1,none⟩ (.slice (some ⟨g7,0,none⟩) (k+1) c7)):=by
 have hz:=b_ h.box;have f:=h.loc;have o:=h.on m;have M:w5.heap.size<=w6.heap.size:=m.size;have L:w6.heap.size<=w7.heap.size:=t.size;obtain⟨y,r⟩:=po_ (q:=z+1) (j:=1) (lo:=z2) EdR.good (by omega) f.2 p u D J m v G t F I;have g:∀b,b<z2->some b≠(Value.slice A3 k c3).ownBlock:=λb hb e=>by have:=(u b e.symm).1;omega
 refine⟨o.below.trans (r.below (B:=z) (λi _ hi=>?_) (by omega)),(r.block _ (by omega) (λd=>?_)).trans o.res,?_,o.nodes.turn NoR.good r (λb hb=>by omega) (λb hb d=>?_),y,f.1,by simp only[World.size_setCell];omega⟩
 ·rcases hi with hi | hi
  ·have:=(u i hi.symm).1;omega
  ·omega
 ·rcases d with d | d
  ·exact g _ (by omega) d
  ·omega
 ·exact heap_setCell_same w7 (z+1) 1 _ _ _ ((t.block (z+1) (by omega) (g _ (by omega))).trans o.box)
 ·rcases d with d | d
  ·exact g _ (by omega) d
  ·omega
def zo_ (G:y_) (w:World) (e:Ending) (w':World):Prop:=
 ∃(A:Option Addr) (c:Nat) (B:Option Addr) (d:Nat) (ns:List i_) (es:List m_),e = .returned (.agg #[.slice A ns.length c,.slice B es.length d])/\Below w.heap.size w w'/\GrR w' (λb=>w.heap.size<=b/\b<w'.heap.size) ⟨ns,es⟩ (.agg #[.slice A ns.length c,.slice B es.length d])/\bm_ ij_ G.nodes ns/\bm_ jg_ G.edges es
set_option maxRecDepth 100000 in
set_option maxHeartbeats 8000000 in
theorem Ci_ (G:y_) (lo p:Nat) (c4 c9:Value) (mh mt ma cm n0:Nat) (w:World) (a3:cj_ w lo p G c4 c9 mh mt ma cm n0) (ac:m7_ G) (bf:∀n,n∈G.nodes->zi_ n) (b5:∀e,e∈G.edges->Gg_ e) :
    Calls Tryz.prog 77 #[.pointer (some ⟨p,0,none⟩)] w (zo_ G w):=by
 have bo:=q_ ac;have cn:=q_ bf;have cf:=q_ b5;obtain⟨AN,cN,bu,_,b0⟩:=a3.nodes;obtain⟨AE,cE,bw,_,bm⟩:=a3.edges;obtain⟨nN,aa⟩:=a_ G.nodes.length;obtain⟨W,a9⟩:=a_ G.edges.length;have cv:nN<=2000000:=by rw[<-aa.o];exact ac.1
 have cx:W<=2000000:=by rw[<-a9.o];exact ac.2.1
 rw[aa.o]at bu b0;rw[a9.o]at bw bm;subst bu bw;have b7:=q_ a3;obtain⟨z,Z⟩:=a_ w.heap.size;have c5:=q_ (b0.mono NoR.good (F':=λb=>b<z) (λb hb=>by have:=a3.loc;have:=Z.o;omega));have ca:=q_ (bm.mono EdR.good (F':=λb=>b<z) (λb hb=>by have:=a3.loc;have:=Z.o;omega));have cb:p<z:=by rw[<-Z.o];exact b_ a3.blk
 clear a3 ac bf b5 b0 bm;obtain⟨w1,ay⟩:=a_ ((w.alloc (.cells #[.slice none 0 0,.slice none 0 0] 54)).alloc (.cells #[.slice none 0 0,.slice none 0 0] 54));have bt:=q_ (show Below w.heap.size w w1 from by rw[<-ay.o];exact L_ w _ _)
 have ci:=q_ (show Pl1 w z [] (.slice none 0 0) w1 from by
  refine⟨by rw[<-Z.o];exact bt.o,?_,?_,B_.nil ..⟩
  ·rw[<-ay.o,Below.heap_alloc _ _ _ (by rw[<-Z.o];simp),<-Z.o];exact heap_alloc_new w _
  ·have:=heap_alloc_new (w.alloc (.cells #[.slice none 0 0,.slice none 0 0] 54)) (.cells #[.slice none 0 0,.slice none 0 0] 54);rw[ay.o]at this;simpa [Z.o] using this)
 have x0:w1.cell? ⟨p,0,none⟩=some (.slice AN nN cN):=(bt.o.cell (b_ b7.o.blk)).trans (cell_of_heap b7.o.blk 0);go_enter Tryz.func77,Tryz.ntmps77
 go_upto_region 2 with fail;rw[Z.o,ay.o];go_wp2_with fail;clear x0;go_loopw [13] (λs wx=>∃(k:Nat) (xs:List i_) (Xs:Value),k<=nN/\s = .int .i64 (k:Nat)/\Q_ (Pl1 w z xs Xs wx/\bm_ ij_ (G.nodes.take k) xs)) (λs _=>nN-(intOf s).toNat)
 case atStart=>exact⟨0,[],_,by omega,rfl,q_ ⟨ci.o,by rw[List.take_zero];exact bm_.nil _⟩⟩
 case round=>
  obtain⟨k,xs,Xs,hk,rfl,Y⟩:=hrel;have f:=q_ Y.o.1;have B:=q_ Y.o.2;clear Y;by_cases b9:k<nN
  ·obtain⟨x,hx⟩:∃x,G.nodes[k]?=some x:=⟨G.nodes[k]'(by rw[aa.o];exact b9),List.getElem?_eq_getElem _⟩;have HX:=q_ hx;have ba:=q_ (bo.o.2.2.1 x (List.mem_of_getElem? hx));have bp:=q_ (cn.o x (List.mem_of_getElem? hx));obtain⟨ad,A1,d1,A2,d2,rfl,b6,bz,ce,b8,q0,q1,q2⟩:=tj_ (c5.o.under NoR.good f.o.below (λb hb=>hb)) hx;have m:=q_ bz;clear hx b6 bz ce b8;obtain⟨id,X⟩:=a_ x.id;obtain⟨m1,ck⟩:=a_ x.labels.length;obtain⟨m2,bn⟩:=a_ x.props.length;rw[X.o]at q0 m;rw[ck.o]at q1 m;rw[bn.o]at q2 m;obtain⟨zn,af⟩:=a_ wr.heap.size;obtain⟨w5,a1⟩:=a_ (wr.alloc (.cells #[.int .i64 id,.slice A1 m1 d1,.slice A2 m2 d2] 72));have ai:=q_ (show Below wr.heap.size wr w5 from by rw[<-a1.o];exact (Below.refl _ _).alloc (Nat.le_refl _) _);have N:=q_ (show w5.heap[zn]?=some (.cells #[.int .i64 id,.slice A1 m1 d1,.slice A2 m2 d2] 72 (0,0)) from by rw[<-a1.o,<-af.o];exact heap_alloc_new wr _);have j:=q_ (f.o.on ai.o);have d:xs.length=k:=by rw[<-B.o.1,List.length_take,aa.o];omega
   have au:=q_ d;obtain⟨A3,c3,h3⟩:=j.o.own.form;rw[d]at h3;subst h3;have c0:=q_ (show Below z w w5 from j.o.below);have I:=q_ (show z+1<w5.heap.size from b_ j.o.box);have bb:=q_ (pk_ x ba.o.1 bp.o (λb=>b<z) _ w5.drew (λb hb=>by show b<w5.heap.size;have:=I.o;omega) (NoR.good.keep m.o (w':=w5.drew) (λq hq=>(ai.o.cell (Nat.lt_of_lt_of_le hq (by have:=b_ f.o.box;omega))))));obtain⟨cs,J,a6,ag,hr⟩:=j.o.own;rw[d]at J a6;have ar:=q_ J;have a5:=q_ (show ∀b,(Value.slice A3 k c3).ownBlock=some b->z+2<=b/\b<w5.heap.size from ag);have M:=q_ (And.intro a6 hr);have g0:w5.drew.cell? ⟨z+1,0,none⟩=some (.slice A3 k c3):=cell_of_heap j.o.box 0;have n0:w5.drew.cell? ⟨zn,0,none⟩=some (.int .i64 id):=cell_of_heap N.o 0;have n1:w5.drew.cell? ⟨zn,1,none⟩=some (.slice A1 m1 d1):=cell_of_heap N.o 1;have n2:w5.drew.cell? ⟨zn,2,none⟩=some (.slice A2 m2 d2):=cell_of_heap N.o 2;clear d J a6 ag hr f;obtain⟨i0,bg,av,aq,ap⟩:=info_parts v9_;have e1:(0:Int)<=k:=by omega
   have e2:(k:Int)<nN:=by omega
   go_upto_region 5 with fail;rw[af.o,a1.o];clear q0 q1 q2;go_region_law (first | (refine step_append_lies _ rfl _ _ 51 rfl 0 72 i0 (.agg #[.int .i64 0,.slice none 0 0,.slice none 0 0]) 3 56 Tryz.underlying51 bg av aq ap rfl (by decide) (.slice A3 k c3) k (N_ cs k) rfl (by exact ab.o.alloc _) ⟨w6.heap.size,0,none⟩ 1 1 [.int .i64 id,.slice A6 q6 c6,.slice L F r] rfl rfl (World.news_of_block (cs:=#[.int .i64 id,.slice A6 q6 c6,.slice L F r]) (by exact NB.o)) aw.o (by omega) (by unfold maxLen;omega) (by omega) (Nat.zero_le _) (w6.heap.size+1) (by exact b3.o) (λg7 c7 w7 aj y ah _=>?_);have az:=q_ aj;have ak:=q_ (show w6.grownBy w7 (Value.slice A3 k c3).ownBlock from a5_ (w:=w6) (o:=.cells #[.int .i64 id,.slice A6 q6 c6,.slice L F r] 72) ⟨y.os,y.tape,y.output,y.size,y.block⟩);have bj:=q_ (show (Value.slice A3 k c3).ownBlock=some g7\/g7=w6.heap.size+1 from ah);have ae:=q_ ((ak.o.block (z+1) (by have:=a4.o;omega) (λe=>by have:=a5.o (z+1) e.symm;omega)).trans a7.o);have f7:w7.frozen? ⟨z+1,0,none⟩=false:=Lib.frozen_of_heap ae.o 0;have co:w7.cell? ⟨z+1,0,none⟩=some (.slice A3 k c3):=cell_of_heap ae.o 0;clear aj y ah) | (go_simp;go_at_call 91;(with_reducible refine bb.o.mono ?_);rintro e w6 ⟨cc,n',rfl,C,t,a8⟩;have a2:=q_ a8;obtain⟨L6,P6,rfl,⟨A6,c6,rfl,_,_⟩,L,r,rfl,_,_⟩:=a8;obtain⟨q6,cl⟩:=a_ n'.labels.length;obtain⟨F,b1⟩:=a_ n'.props.length;rw[cl.o,b1.o]at a2 ⊢;rw[t.1,X.o]at a2 ⊢;have b2:=q_ C;have ao:=q_ t;have a4:=q_ (show z+1<w6.heap.size from by have h1:w5.heap.size<=w6.heap.size:=C.size;have:=I.o;omega);have ab:=q_ ((Turn.of_below C).owns ar.o (λg hg h=>by have:=a5.o g hg;have h2:w5.heap.size<=g:=h;omega));have a7:=q_ ((C.block (z+1) (by show z+1<w5.heap.size;exact I.o)).trans j.o.box);have bh:w6.cell? ⟨z+1,0,none⟩=some (.slice A3 k c3):=cell_of_heap a7.o 0;have cd:(w6.alloc (.cells #[.int .i64 id,.slice A6 q6 c6,.slice L F r] 72)).cell? ⟨z+1,0,none⟩=some (.slice A3 k c3):=(World.cell?_alloc_lt w6 _ _ (by show z+1<_;exact a4.o)).trans bh;have aw:=q_ (show ∀u∈([.int .i64 id,.slice A6 q6 c6,.slice L F r]:List Value),u.oneCell'=true from λu hu=>by simp at hu;rcases hu with rfl | rfl | rfl<;>rfl);have NB:=q_ (heap_alloc_new w6 (.cells #[.int .i64 id,.slice A6 q6 c6,.slice L F r] 72));have b3:=q_ (show (w6.alloc (.cells #[.int .i64 id,.slice A6 q6 c6,.slice L F r] 72)).heap.size=w6.heap.size+1 by simp);clear C t))
   all_goals (
    have w1:IntKind.i64.wrap ((k:Int)+1)=(k:Int)+1:=IntWalk.i64_in _ (by omega);go_wp2_with fail;go_roundw)
   all_goals first
    | (case measure=>simp[intOf];omega)
    | (case rel=>
        refine⟨k+1,xs++[n'],.slice (some ⟨g7,0,none⟩) (k+1) c7,by omega,by go_num,q_ ⟨?_,by rw[g_ HX.o];exact B.o.snoc ao.o⟩⟩;exact Pl1.more j.o au.o a5.o M.o.1 M.o.2 (cv_ b2.o) a2.o rfl ak.o bj.o az.o)
  ·have a0:nN=k:=by omega
   have bk:=q_ (show bm_ ij_ G.nodes xs from by have h:=B.o;rw[List.take_of_length_le (by rw[aa.o,a0];exact Nat.le_refl _)]at h;exact h);have d:xs.length=k:=by rw[<-bk.o.1,aa.o];exact a0
   obtain⟨O,T,hX⟩:=f.o.own.form;rw[d]at hX;subst hX;have bd:=q_ d;have am:=f.o.next;obtain⟨ns,br⟩:∃ns,ns=xs:=⟨xs,rfl⟩;rw[<-br]at am bk bd;obtain⟨z2,c8⟩:=a_ wr.heap.size;rw[c8.o]at am;obtain⟨k1,bi⟩:∃k1,k1=k:=⟨k,rfl⟩;rw[<-bi]at am bd;have bx:=q_ am;have cu:=q_ bi;have x1:wr.cell? ⟨p,1,none⟩=some (.slice AE W cE):=(bx.o.below.cell cb).trans (cell_of_heap b7.o.blk 1);clear d br f am B bi;subst a0;go_upto_region 7 with fail;go_wp2_with fail;clear x1;go_loopw [30] (λs wx=>∃(k:Nat) (xs:List m_) (Xs:Value),k<=W/\s = .int .i64 (k:Nat)/\Q_ (Pl2 w z z2 ns xs (.slice O k1 T) Xs wx/\bm_ jg_ (G.edges.take k) xs)) (λs _=>W-(intOf s).toNat)
   case atStart=>exact⟨0,[],_,by omega,rfl,q_ ⟨bx.o,by rw[List.take_zero];exact bm_.nil _⟩⟩
   case round=>
    obtain⟨k,xs,Xs,hk,rfl,Y⟩:=hrel;have f:=q_ Y.o.1;have B:=q_ Y.o.2;clear Y;by_cases b9:k<W
    ·obtain⟨x,hx⟩:∃x,G.edges[k]?=some x:=⟨G.edges[k]'(by rw[a9.o];exact b9),List.getElem?_eq_getElem _⟩;have HX:=q_ hx;have ba:=q_ (bo.o.2.2.2 x (List.mem_of_getElem? hx));have bp:=q_ (cf.o x (List.mem_of_getElem? hx));obtain⟨ad,A2,d2,rfl,b6,bs,b8,q0,q1,q2,q3,q4⟩:=nh_ (ca.o.under EdR.good f.o.below (λb hb=>hb)) hx;have m:=q_ bs;clear hx b6 bs b8;obtain⟨id,X⟩:=a_ x.id;obtain⟨src,bc⟩:=a_ x.src;obtain⟨dst,bl⟩:=a_ x.dst;obtain⟨D,b4⟩:=a_ x.type;obtain⟨m2,bn⟩:=a_ x.props.length;rw[X.o]at q0 m;rw[bc.o]at q1 m;rw[bl.o]at q2 m;rw[b4.o]at q3 m;rw[bn.o]at q4 m;obtain⟨zn,af⟩:=a_ wr.heap.size;obtain⟨w5,a1⟩:=a_ (wr.alloc (.cells #[.int .i64 id,.int .i64 src,.int .i64 dst,.string D,.slice A2 m2 d2] 74));have ai:=q_ (show Below wr.heap.size wr w5 from by rw[<-a1.o];exact (Below.refl _ _).alloc (Nat.le_refl _) _);have N:=q_ (show w5.heap[zn]?=some (.cells #[.int .i64 id,.int .i64 src,.int .i64 dst,.string D,.slice A2 m2 d2] 74 (0,0)) from by rw[<-a1.o,<-af.o];exact heap_alloc_new wr _);have j:=q_ (f.o.on ai.o);have d:xs.length=k:=by rw[<-B.o.1,List.length_take,a9.o];omega
     have au:=q_ d;obtain⟨A3,c3,h3⟩:=j.o.own.form;rw[d]at h3;subst h3;have c0:=q_ (show Below z w w5 from j.o.below);have I:=q_ (show z+1<w5.heap.size from b_ j.o.box);have bb:=q_ (v2_ x ba.o.1 bp.o (λb=>b<z) _ w5.drew (λb hb=>by show b<w5.heap.size;have:=I.o;omega) (EdR.good.keep m.o (w':=w5.drew) (λq hq=>(ai.o.cell (Nat.lt_of_lt_of_le hq (by have:=b_ f.o.box;omega))))));obtain⟨cs,J,a6,ag,hr⟩:=j.o.own;rw[d]at J a6;have ar:=q_ J;have a5:=q_ (show ∀b,(Value.slice A3 k c3).ownBlock=some b->z2<=b/\b<w5.heap.size from ag);have M:=q_ (And.intro a6 hr);have g0:w5.drew.cell? ⟨z+1,1,none⟩=some (.slice A3 k c3):=cell_of_heap j.o.box 1;have n0:w5.drew.cell? ⟨zn,0,none⟩=some (.int .i64 id):=cell_of_heap N.o 0;have n1:w5.drew.cell? ⟨zn,1,none⟩=some (.int .i64 src):=cell_of_heap N.o 1;have n2:w5.drew.cell? ⟨zn,2,none⟩=some (.int .i64 dst):=cell_of_heap N.o 2;have n3:w5.drew.cell? ⟨zn,3,none⟩=some (.string D):=cell_of_heap N.o 3;have n4:w5.drew.cell? ⟨zn,4,none⟩=some (.slice A2 m2 d2):=cell_of_heap N.o 4;have cq:z+2<=z2:=j.o.loc.1;clear d J a6 ag hr f;obtain⟨i0,bg,av,aq,ap⟩:=info_parts wa_;have e1:(0:Int)<=k:=by omega
     have e2:(k:Int)<W:=by omega
     go_upto_region 10 with fail;rw[af.o,a1.o];clear q0 q1 q2 q3 q4;go_region_law (first | (refine step_append_lies _ rfl _ _ 52 rfl 0 74 i0 (.agg #[.int .i64 0,.int .i64 0,.int .i64 0,.string ⟨#[]⟩,.slice none 0 0]) 5 64 Tryz.underlying52 bg av aq ap rfl (by decide) (.slice A3 k c3) k (N_ cs k) rfl (by exact ab.o.alloc _) ⟨w6.heap.size,0,none⟩ 1 1 [.int .i64 id,.int .i64 src,.int .i64 dst,.string D,.slice L F r] rfl rfl (World.news_of_block (cs:=#[.int .i64 id,.int .i64 src,.int .i64 dst,.string D,.slice L F r]) (by exact NB.o)) aw.o (by omega) (by unfold maxLen;omega) (by omega) (Nat.zero_le _) (w6.heap.size+1) (by exact b3.o) (λg7 c7 w7 aj y ah _=>?_);have az:=q_ aj;have ak:=q_ (show w6.grownBy w7 (Value.slice A3 k c3).ownBlock from a5_ (w:=w6) (o:=.cells #[.int .i64 id,.int .i64 src,.int .i64 dst,.string D,.slice L F r] 74) ⟨y.os,y.tape,y.output,y.size,y.block⟩);have bj:=q_ (show (Value.slice A3 k c3).ownBlock=some g7\/g7=w6.heap.size+1 from ah);have ae:=q_ ((ak.o.block (z+1) (by have:=a4.o;omega) (λe=>by have:=a5.o (z+1) e.symm;omega)).trans a7.o);have f7:w7.frozen? ⟨z+1,1,none⟩=false:=Lib.frozen_of_heap ae.o 1;have co:w7.cell? ⟨z+1,1,none⟩=some (.slice A3 k c3):=cell_of_heap ae.o 1;clear aj y ah) | (go_simp;go_at_call 93;(with_reducible refine bb.o.mono ?_);rintro e w6 ⟨cc,n',rfl,C,t,a8⟩;have a2:=q_ a8;obtain⟨P6,rfl,L,r,rfl,_,_⟩:=a8;obtain⟨F,b1⟩:=a_ n'.props.length;rw[b1.o]at a2 ⊢;rw[t.1,t.2.1,t.2.2.1,t.2.2.2.1,X.o,bc.o,bl.o,b4.o]at a2 ⊢;have b2:=q_ C;have ao:=q_ t;have a4:=q_ (show z+1<w6.heap.size from by have h1:w5.heap.size<=w6.heap.size:=C.size;have:=I.o;omega);have ab:=q_ ((Turn.of_below C).owns ar.o (λg hg h=>by have:=a5.o g hg;have h2:w5.heap.size<=g:=h;omega));have a7:=q_ ((C.block (z+1) (by show z+1<w5.heap.size;exact I.o)).trans j.o.box);have bh:w6.cell? ⟨z+1,1,none⟩=some (.slice A3 k c3):=cell_of_heap a7.o 1;have cd:(w6.alloc (.cells #[.int .i64 id,.int .i64 src,.int .i64 dst,.string D,.slice L F r] 74)).cell? ⟨z+1,1,none⟩=some (.slice A3 k c3):=(World.cell?_alloc_lt w6 _ _ (by show z+1<_;exact a4.o)).trans bh;have aw:=q_ (show ∀u∈([.int .i64 id,.int .i64 src,.int .i64 dst,.string D,.slice L F r]:List Value),u.oneCell'=true from λu hu=>by simp at hu;rcases hu with rfl | rfl | rfl | rfl | rfl<;>rfl);have NB:=q_ (heap_alloc_new w6 (.cells #[.int .i64 id,.int .i64 src,.int .i64 dst,.string D,.slice L F r] 74));have b3:=q_ (show (w6.alloc (.cells #[.int .i64 id,.int .i64 src,.int .i64 dst,.string D,.slice L F r] 74)).heap.size=w6.heap.size+1 by simp);clear C t))
     all_goals (
      have w1:IntKind.i64.wrap ((k:Int)+1)=(k:Int)+1:=IntWalk.i64_in _ (by omega);go_wp2_with fail;go_roundw)
     all_goals first
      | (case measure=>simp[intOf];omega)
      | (case rel=>
          refine⟨k+1,xs++[n'],.slice (some ⟨g7,0,none⟩) (k+1) c7,by omega,by go_num,q_ ⟨?_,by rw[g_ HX.o];exact B.o.snoc ao.o⟩⟩;exact Pl2.more j.o au.o a5.o M.o.1 M.o.2 (cv_ b2.o) a2.o rfl ak.o bj.o az.o)
    ·have a0:W=k:=by omega
     have bq:=q_ (show bm_ jg_ G.edges xs from by have h:=B.o;rw[List.take_of_length_le (by rw[a9.o,a0];exact Nat.le_refl _)]at h;exact h);have d:xs.length=k:=by rw[<-bq.o.1,a9.o];exact a0
     obtain⟨U,V,hX⟩:=f.o.own.form;rw[d]at hX;subst hX;have c1:=q_ d;have ct:wr.cell? ⟨z+1,0,none⟩=some (.slice O k1 T):=cell_of_heap f.o.box 0;have cw:wr.cell? ⟨z+1,1,none⟩=some (.slice U k V):=cell_of_heap f.o.box 1;have r0:wr.cell? ⟨z,0,none⟩=some (.slice none 0 0):=cell_of_heap f.o.res 0;have r1:wr.cell? ⟨z,1,none⟩=some (.slice none 0 0):=cell_of_heap f.o.res 1;have y0:wr.frozen? ⟨z,0,none⟩=false:=Lib.frozen_of_heap f.o.res 0;have y1:wr.frozen? ⟨z,1,none⟩=false:=Lib.frozen_of_heap f.o.res 1;clear d B;subst a0;go_upto_region 12 with fail;go_wp2_with fail;have h1:=heap_setCell_same _ z 1 _ _ (.slice U W V) (heap_setCell_same _ z 0 _ _ (.slice O k1 T) f.o.res);have ht:=(((Turn.refl (λb=>b=z) wr).setCell (p:=⟨z,0,none⟩) (.inr rfl) (.slice O k1 T)).setCell (p:=⟨z,1,none⟩) (.inr rfl) (.slice U W V));obtain⟨W9,c2⟩:=a_ ((wr.setCell ⟨z,0,none⟩ (.slice O k1 T)).setCell ⟨z,1,none⟩ (.slice U W V));rw[c2.o]at h1 ht ⊢;have k0:W9.cell? ⟨z,0,none⟩=some (.slice O k1 T):=cell_of_heap h1 0;have cj:W9.cell? ⟨z,1,none⟩=some (.slice U W V):=cell_of_heap h1 1;have cr:=f.o.loc;have cg:Below w.heap.size w W9:=by rw[Z.o];exact f.o.below.trans (ht.below (λi _ h=>by omega) (by have:=b_ f.o.box;omega))
     have ch:GrR W9 (λb=>w.heap.size<=b/\b<W9.heap.size) ⟨ns,xs⟩ (.agg #[.slice O k1 T,.slice U W V]):=by
      refine⟨_,_,rfl,?_,?_⟩
      ·refine ((f.o.nodes.turn NoR.good ht (λb hb=>by omega) (λb hb=>by omega)).rd NoR.good).mono NoR.good (λb hb=>⟨by have:=Z.o;omega,by have:=ht.size;omega⟩)
      ·refine ((f.o.own.turn EdR.good ht (λb hb=>hb.2) (λb hb=>by omega)).rd EdR.good).mono EdR.good (λb hb=>⟨by have:=Z.o;omega,by have:=ht.size;omega⟩)
     rw [<- bd.o, <- c1.o] at *;refine bodyPost_ret (v:=.agg #[.slice O ns.length T,.slice U xs.length V]) (by simp[results,Tryz.results77,go_sem,k0,cj]) rfl ⟨O,T,U,V,ns,xs,rfl,cg,ch,bk.o,bq.o⟩
end
section
open Go Go.RowKit Go.Shelf Go.Sort Go.Proofs
def WT (w:World) (s:Value):Prop:=∃n xs,w.ownsRow 0 9 1 s n xs/\n<=2000000
theorem WT.turn {S:Nat->Prop} {w w':World} {s:Value} (h:WT w s) (ht:Turn S w w') (b:∀g,s.ownBlock=some g->¬S g):WT w' s:=by obtain⟨n,xs,h1,h2⟩:=h;exact⟨n,xs,ht.owns h1 b,h2⟩
theorem WT.nil (w:World):WT w (.slice none 0 0):=⟨0,[],World.ownsRow_nil ..,by decide⟩
theorem WT.lt {w:World} {s:Value} (h:WT w s):∀g,s.ownBlock=some g->g<w.heap.size:=λg b=>by
 obtain⟨n,xs,h1,_⟩:=h;exact (h1.lt g b).2
end
section
open Go Go.RowKit
structure Cj_ {α : Type} (le:α -> α -> Prop) (l:List α) (i:Nat) (c:List α):Prop where
 perm:c.Perm l
 rest:∀j,i<=j->c[j]?=l[j]?
 srt:∀p q x y,p<q->q<i->c[p]?=some x->c[q]?=some y->le x y
section
variable {α : Type} {le:α -> α -> Prop} {l c:List α} {i k:Nat}
theorem Cj_.zero:Cj_ le l 0 l:=⟨List.Perm.refl _,λ_ _=>rfl,λ_ _ _ _ _ h=>absurd h (Nat.not_lt_zero _)⟩
theorem Cj_.one:Cj_ le l 1 l:=⟨List.Perm.refl _,λ_ _=>rfl,λ_ _ _ _ h h2=>by omega⟩
theorem Cj_.done {n:Nat} (h:Cj_ le l n c) (f:l.length<=n):c.Perm l/\c.Pairwise le:=by refine⟨h.perm,List.pairwise_iff_getElem.2 λp q e d b=>?_⟩;exact h.srt p q _ _ b (by rw[h.perm.length_eq]at d;omega) (List.getElem?_eq_getElem e) (List.getElem?_eq_getElem d)
end
structure bj_.GoodT {α : Type} (R:bj_ α):Prop where
 turn:∀{S:Nat->Prop} {w w':World} {F:Nat->Prop} {x:α} {c:Array Value},R w F x c->Turn S w w'->(∀b,F b->b<w.heap.size)->(∀b,F b->¬S b)->R w' F x c
 mono:∀{w:World} {F F':Nat->Prop} {x:α} {c:Array Value},R w F x c->(∀g,F g->F' g)->R w F' x c
theorem bj_.Good.t {α : Type} {R:bj_ α} (h:R.Good):R.GoodT:=⟨λe ht d f=>h.keep e λ_ b=>ht.cell (d _ b) (f _ b),h.mono⟩
structure l0_ {α : Type} (E sz:Nat) (R:bj_ α) (w:World) (lo hi:Nat) (l:List α) (A:Option Addr) (n cp:Nat) (cs:Nat->Array Value) (a:Nat->Nat):Prop where
 row:w.ownsRow 0 E sz (.slice A n cp) n (N_ cs n)
 len:l.length=n
 sz:∀i,i<n->(cs i).size=sz
 own:∀g,(Value.slice A n cp).ownBlock=some g->lo<=g/\g<hi
 up:∀i j,i<=j->a i<=a j
 lo_:lo<=a 0
 hi_:a n<=hi
 top:hi<=w.heap.size
 el:∀i x,l[i]?=some x->R w (λb=>a i<=b/\b<a (i+1)/\(Value.slice A n cp).ownBlock≠some b) x (cs i)
def l1_ {α : Type} (E sz:Nat) (R:bj_ α) (w:World) (lo hi:Nat) (l:List α) (s:Value):Prop:=∃A cp cs a,s = .slice A l.length cp/\l0_ E sz R w lo hi l A l.length cp cs a
section
variable {α : Type} {R:bj_ α} {E sz lo hi n cp:Nat} {w w':World} {l:List α} {A:Option Addr} {cs:Nat->Array Value} {a:Nat->Nat} {s:Value}
theorem l0_.turn {S:Nat->Prop} (m:R.GoodT) (h:l0_ E sz R w lo hi l A n cp cs a) (ht:Turn S w w') (f:∀b,lo<=b->b<hi->¬S b):l0_ E sz R w' lo hi l A n cp cs a:=by
 refine⟨ht.owns h.row (λg e=>f g (h.own g e).1 (h.own g e).2),h.len,h.sz,h.own,h.up,h.lo_,h.hi_,Nat.le_trans h.top ht.size,λi x d=>m.turn (h.el i x d) ht (λb hb=>?_) (λb hb=>?_)⟩
 ·have j:=by_ d;have:=h.up (i+1) n (by have:=h.len;omega);have:=h.hi_;have:=h.top;omega
 ·have j:=by_ d;have:=h.up (i+1) n (by have:=h.len;omega);have:=h.up 0 i (by omega);have:=h.hi_;have:=h.lo_;exact f b (by omega) (by omega)
theorem l0_.wide {b:Nat} (h:l0_ E sz R w lo hi l A n cp cs a) (d:hi<=b) (ht:b<=w.heap.size):l0_ E sz R w lo b l A n cp cs a:=
 ⟨h.row,h.len,h.sz,λg e=>⟨(h.own g e).1,Nat.lt_of_lt_of_le (h.own g e).2 d⟩,h.up,h.lo_,Nat.le_trans h.hi_ d,ht,h.el⟩
theorem l1_.turn {S:Nat->Prop} (d:R.GoodT) (h:l1_ E sz R w lo hi l s) (ht:Turn S w w') (f:∀b,lo<=b->b<hi->¬S b):l1_ E sz R w' lo hi l s:=by obtain⟨A,cp,cs,a,e,h⟩:=h;exact⟨A,cp,cs,a,e,h.turn d ht f⟩
theorem l1_.wide {b:Nat} (h:l1_ E sz R w lo hi l s) (d:hi<=b) (ht:b<=w.heap.size):l1_ E sz R w lo b l s:=by obtain⟨A,cp,cs,a,e,h⟩:=h;exact⟨A,cp,cs,a,e,h.wide d ht⟩
theorem l1_.nil (b:lo<=hi) (ht:hi<=w.heap.size):l1_ E sz R w lo hi [] (.slice none 0 0):=
 ⟨none,0,λ_=>#[],λ_=>lo,rfl,World.ownsRow_nil ..,rfl,(λ_ h=>absurd h (Nat.not_lt_zero _)),(λg d=>by cases d),λ_ _ _=>Nat.le_refl _,Nat.le_refl _,b,ht,λi x e=>by simp at e⟩
theorem l0_.put {q j k:Nat} {w5 w6 w7:World} {x:α} {c:Array Value} {g7 c7:Nat} {v:Value} (t:R.GoodT) (hq:q<lo) (h:l0_ E sz R w5 lo w5.heap.size l A k cp cs a)
    (B:Below w5.heap.size w5 w6) (J:R w6 (λb=>w5.heap.size<=b/\b<w6.heap.size) x c) (T:c.size=sz) (r:w6.grownBy w7 (Value.slice A k cp).ownBlock) (D:(Value.slice A k cp).ownBlock=some g7\/w6.heap.size<=g7)
    (O:w7.ownsRow 0 E sz (.slice (some ⟨g7,0,none⟩) (k+1) c7) (k+1) (N_ cs k++c.toList)) :
    l1_ E sz R (w7.setCell ⟨q,j,none⟩ v) lo (w7.setCell ⟨q,j,none⟩ v).heap.size (l++[x]) (.slice (some ⟨g7,0,none⟩) (k+1) c7)/\Turn (λb=>some b=(Value.slice A k cp).ownBlock\/b=q) w6 (w7.setCell ⟨q,j,none⟩ v):=by
 have X:w5.heap.size<=w6.heap.size:=B.size;have W:w6.heap.size<=w7.heap.size:=r.size;have a0:g7<w7.heap.size:=(O.lt g7 rfl).2;have f:=h.len
 have Z:lo<=g7:=by
  rcases D with e | e
  ·exact (h.own g7 e).1
  ·have:=h.lo_;have:=h.up 0 k (by omega);have:=h.hi_;omega
 have F:Turn (λb=>some b=(Value.slice A k cp).ownBlock\/b=q) w6 (w7.setCell ⟨q,j,none⟩ v):=
  ((Turn.of_grown r).mono (λb _ hb=>.inl hb)).trans (((Turn.refl (λb=>b=q) w7).setCell (p:=⟨q,j,none⟩) (.inr rfl) v).mono (λb _ hb=>.inr hb))
 have N:(w7.setCell ⟨q,j,none⟩ v).heap.size=w7.heap.size:=by simp
 refine⟨⟨some ⟨g7,0,none⟩,c7,λi=>if i=k then c else cs i,λi=>if i<=k then a i else w7.heap.size,by simp[f],?_⟩,F⟩
 have o:(l++[x]).length=k+1:=by simp[f]
 rw[o];refine⟨?_,o,λi hi=>?_,λg C=>?_,λi j M=>?_,?_,?_,Nat.le_refl _,λi y u=>?_⟩
 ·rw[cy_,fh_ (ds:=cs) (λi hi=>if_neg (by omega)),if_pos rfl]
  exact ((Turn.refl (λb=>b=q) w7).setCell (p:=⟨q,j,none⟩) (.inr rfl) v).owns O (λg r e=>by have r:g7=g:=by injection r
                                                                                           omega)
 ·show (if i=k then c else cs i).size=sz
  by_cases e:i=k
  ·rw[if_pos e];exact T
  ·rw[if_neg e];exact h.sz i (by omega)
 ·have C:g7=g:=by injection C
  omega
 ·show (if i<=k then a i else w7.heap.size)<=(if j<=k then a j else w7.heap.size)
  by_cases d:j<=k
  ·rw[if_pos d,if_pos (by omega)];exact h.up i j M
  ·rw[if_neg d];by_cases G:i<=k
   ·rw[if_pos G];have:=h.up i k G;have:=h.hi_;omega
   ·rw[if_neg G];exact Nat.le_refl _
 ·show lo<=if 0<=k then a 0 else w7.heap.size
  rw[if_pos (Nat.zero_le _)];exact h.lo_
 ·show (if k+1<=k then a (k+1) else w7.heap.size)<=_
  rw[if_neg (by omega),N];exact Nat.le_refl _
 ·have L:=by_ u;rw[o]at L;by_cases e:i=k
  ·subst e;have I:y=x:=by rw[List.getElem?_append_right (by omega),f,Nat.sub_self]at u;simpa using u.symm
   subst I;show R _ (λb=>(if i<=i then a i else w7.heap.size)<=b/\b<(if i+1<=i then a (i+1) else w7.heap.size)/\_) y (if i=i then c else cs i)
   rw[if_pos rfl,if_pos (Nat.le_refl _),if_neg (by omega)];refine t.mono (t.turn J F (λb hb=>hb.2) (λb hb d=>?_)) λb hb=>⟨?_,by omega,λd=>?_⟩
   ·rcases d with d | d
    ·have:=(h.own b d.symm).2;omega
    ·have:=h.lo_;have:=h.up 0 i (by omega);have:=h.hi_;omega
   ·have:=h.hi_;omega
   ·have d:g7=b:=by injection d
    rcases D with m | m
    ·have:=(h.own g7 m).2;omega
    ·omega
  ·have a1:i<k:=by omega
   rw[List.getElem?_append_left (by omega)]at u;show R _ (λb=>(if i<=k then a i else w7.heap.size)<=b/\b<(if i+1<=k then a (i+1) else w7.heap.size)/\_) y (if i=k then c else cs i)
   rw[if_neg e,if_pos (show i<=k by omega),if_pos (show i+1<=k by omega)];have h1:=h.el i y u;have a2:=h.up (i+1) k (by omega);have a3:=h.up 0 i (by omega);have Y:=h.hi_;have V:=h.lo_;have U:=t.turn h1 (Turn.of_below B) (λb hb=>by omega) (λb hb d=>by omega);refine t.mono (t.turn U F (λb hb=>by omega) (λb hb d=>?_)) λb hb=>⟨hb.1,hb.2.1,λd=>?_⟩
   ·rcases d with d | d
    ·exact hb.2.2 d.symm
    ·omega
   ·have d:g7=b:=by injection d
    rcases D with m | m
    ·exact hb.2.2 (by rw[m,d])
    ·omega
end
def NoO:bj_ i_:=λw F n c=>∃L P m,c=#[.int .i64 n.id,L,P]/\B_ 9 1 TxR w (λb=>F b/\b<m) n.labels L/\B_ 69 7 PaR w (λb=>F b/\m<=b) n.props P
theorem NoO.good:NoO.GoodT:=
 ⟨fun⟨L,P,m,e,h1,h2⟩ ht hl hS=>⟨L,P,m,e,h1.turn TxR.good ht (λb hb=>hl b hb.1) (λb hb=>hS b hb.1),h2.turn PaR.good ht (λb hb=>hl b hb.1) (λb hb=>hS b hb.1)⟩,
  fun⟨L,P,m,e,h1,h2⟩ hF=>⟨L,P,m,e,h1.mono TxR.good (λb hb=>⟨hF b hb.1,hb.2⟩),h2.mono PaR.good (λb hb=>⟨hF b hb.1,hb.2⟩)⟩⟩
def EdO:bj_ m_:=λw F e c=>∃P,c=#[.int .i64 e.id,.int .i64 e.src,.int .i64 e.dst,.string e.type,P]/\B_ 69 7 PaR w F e.props P
theorem EdO.good:EdO.GoodT:=
 ⟨fun⟨P,e,h⟩ ht hl hS=>⟨P,e,h.turn PaR.good ht hl hS⟩,fun⟨P,e,h⟩ hF=>⟨P,e,h.mono PaR.good hF⟩⟩
theorem NoO.rd {w:World} {F:Nat->Prop} {n:i_} {c:Array Value} (h:NoO w F n c):NoR w F n c:=by obtain⟨L,P,m,e,h1,h2⟩:=h;exact⟨L,P,e,(h1.rd TxR.good).mono TxR.good (λb hb=>hb.1),(h2.rd PaR.good).mono PaR.good (λb hb=>hb.1)⟩
theorem EdO.rd {w:World} {F:Nat->Prop} {n:m_} {c:Array Value} (h:EdO w F n c):EdR w F n c:=by obtain⟨P,e,h1⟩:=h;exact⟨P,e,h1.rd PaR.good⟩
section
variable {P:Program} {md:Region.Mode} {ops:Array Oper} {Q:Exit->Act->World->Prop} {S:World->Prop} {fuel:Nat} {listed:Array Bool} {a:Act} {w:World}
end
structure Cg1 (w:World) (z:Nat) (ns:List i_) (Ns:Value) (wr:World):Prop where
 below:Below z w wr
 res:wr.heap[z]?=some (.cells #[.slice none 0 0,.slice none 0 0] 54 (0,0))
 box:wr.heap[z+1]?=some (.cells #[Ns,.slice none 0 0] 54 (0,0))
 own:l1_ 72 3 NoO wr (z+2) wr.heap.size ns Ns
structure Cg2 (w:World) (z z2:Nat) (ns:List i_) (es:List m_) (Ns Es:Value) (wr:World):Prop where
 below:Below z w wr
 res:wr.heap[z]?=some (.cells #[.slice none 0 0,.slice none 0 0] 54 (0,0))
 box:wr.heap[z+1]?=some (.cells #[Ns,Es] 54 (0,0))
 nodes:l1_ 72 3 NoO wr (z+2) z2 ns Ns
 own:l1_ 74 5 EdO wr z2 wr.heap.size es Es
 loc:z+2<=z2/\z2<=wr.heap.size
section
variable {w:World} {z z2 k:Nat} {ns:List i_} {es:List m_} {Ns Es:Value} {wr w2 w5 w6 w7:World} {A3:Option Addr} {c3:Nat} {cs:Nat->Array Value} {a:Nat->Nat} {c:Array Value} {g7 c7:Nat}
theorem Cg1.on (h:Cg1 w z ns Ns wr) (hb:Below wr.heap.size wr w2):Cg1 w z ns Ns w2:=by have hz:=b_ h.box;exact⟨h.below.trans (hb.mono (by omega)),(hb.block _ (by omega)).trans h.res,(hb.block _ hz).trans h.box,(h.own.turn NoO.good (Turn.of_below hb) (λb _ hb h=>by omega)).wide hb.size (Nat.le_refl _)⟩
theorem Cg2.on (h:Cg2 w z z2 ns es Ns Es wr) (hb:Below wr.heap.size wr w2):Cg2 w z z2 ns es Ns Es w2:=by
 have hz:=b_ h.box;have d:=h.loc
 exact⟨h.below.trans (hb.mono (by omega)),(hb.block _ (by omega)).trans h.res,(hb.block _ hz).trans h.box,h.nodes.turn NoO.good (Turn.of_below hb) (λb _ hb h=>by omega),
  (h.own.turn EdO.good (Turn.of_below hb) (λb _ hb h=>by omega)).wide hb.size (Nat.le_refl _),d.1,Nat.le_trans d.2 hb.size⟩
theorem Cg1.next (h:Cg1 w z ns Ns wr):Cg2 w z wr.heap.size ns [] Ns (.slice none 0 0) wr:=by have hz:=b_ h.box;exact⟨h.below,h.res,h.box,h.own,l1_.nil (Nat.le_refl _) (Nat.le_refl _),by omega,Nat.le_refl _⟩
theorem Cg1.more {u:i_} (h:Cg1 w z ns (.slice A3 k c3) w5) (m:l0_ 72 3 NoO w5 (z+2) w5.heap.size ns A3 k c3 cs a)
    (d:Below w5.heap.size w5 w6) (x:NoO w6 (λb=>w5.heap.size<=b/\b<w6.heap.size) u c) (y:c.size=3) (o:w6.grownBy w7 (Value.slice A3 k c3).ownBlock) (D:(Value.slice A3 k c3).ownBlock=some g7\/w6.heap.size<=g7)
    (C:w7.ownsRow 0 72 3 (.slice (some ⟨g7,0,none⟩) (k+1) c7) (k+1) (N_ cs k++c.toList)) :
    Cg1 w z (ns++[u]) (.slice (some ⟨g7,0,none⟩) (k+1) c7) (w7.setCell ⟨z+1,0,none⟩ (.slice (some ⟨g7,0,none⟩) (k+1) c7)):=by
 have hz:=b_ h.box;have p:=h.on d;have F:w5.heap.size<=w6.heap.size:=d.size;have G:w6.heap.size<=w7.heap.size:=o.size;obtain⟨t,r⟩:=l0_.put (q:=z+1) (j:=0) (v:=.slice (some ⟨g7,0,none⟩) (k+1) c7) NoO.good (by omega) m d x y o D C;have g:∀b,b<z+2->some b≠(Value.slice A3 k c3).ownBlock:=λb hb e=>by have:=(m.own b e.symm).1;omega
 refine⟨p.below.trans (r.below (B:=z) (λi _ hi=>?_) (by omega)),(r.block _ (by omega) (λf=>?_)).trans p.res,?_,t⟩
 ·rcases hi with hi | hi
  ·have:=(m.own i hi.symm).1;omega
  ·omega
 ·rcases f with f | f
  ·exact g _ (by omega) f
  ·omega
 ·exact heap_setCell_same w7 (z+1) 0 _ _ _ ((o.block (z+1) (by omega) (g _ (by omega))).trans p.box)
theorem Cg2.more {x:m_} (h:Cg2 w z z2 ns es Ns (.slice A3 k c3) w5) (p:l0_ 74 5 EdO w5 z2 w5.heap.size es A3 k c3 cs a)
    (f:Below w5.heap.size w5 w6) (y:EdO w6 (λb=>w5.heap.size<=b/\b<w6.heap.size) x c) (C:c.size=5) (r:w6.grownBy w7 (Value.slice A3 k c3).ownBlock) (F:(Value.slice A3 k c3).ownBlock=some g7\/w6.heap.size<=g7)
    (D:w7.ownsRow 0 74 5 (.slice (some ⟨g7,0,none⟩) (k+1) c7) (k+1) (N_ cs k++c.toList)) :
    Cg2 w z z2 ns (es++[x]) Ns (.slice (some ⟨g7,0,none⟩) (k+1) c7) (w7.setCell ⟨z+1,1,none⟩ (.slice (some ⟨g7,0,none⟩) (k+1) c7)):=by
 have hz:=b_ h.box;have t:=h.loc;have m:=h.on f;have G:w5.heap.size<=w6.heap.size:=f.size;have I:w6.heap.size<=w7.heap.size:=r.size;obtain⟨u,o⟩:=l0_.put (q:=z+1) (j:=1) (v:=.slice (some ⟨g7,0,none⟩) (k+1) c7) EdO.good (by omega) p f y C r F D;have g:∀b,b<z2->some b≠(Value.slice A3 k c3).ownBlock:=λb hb e=>by have:=(p.own b e.symm).1;omega
 refine⟨m.below.trans (o.below (B:=z) (λi _ hi=>?_) (by omega)),(o.block _ (by omega) (λd=>?_)).trans m.res,?_,m.nodes.turn NoO.good o (λb J hb d=>?_),u,t.1,by simp only[World.size_setCell];omega⟩
 ·rcases hi with hi | hi
  ·have:=(p.own i hi.symm).1;omega
  ·omega
 ·rcases d with d | d
  ·exact g _ (by omega) d
  ·omega
 ·exact heap_setCell_same w7 (z+1) 1 _ _ _ ((r.block (z+1) (by omega) (g _ (by omega))).trans m.box)
 ·rcases d with d | d
  ·exact g _ (by omega) d
  ·omega
end
end
section
open Go Go.RowKit Go.Maps
theorem jh_ {v:h_} (h:X_ v):v.text.size<=1048576/\v.extra.size<=1048576:=by
 have d:=h.1
 have key:∀(k:Int) (b:Bool) (n:Int) (t x:ByteArray),v = .mk k b n t x []->t.size<=1048576->x.size<=1048576->v.text.size<=1048576/\v.extra.size<=1048576:=λk b n t x e h1 h2=>by
  rw[e];exact⟨h1,h2⟩
 have h0:(⟨#[]⟩:ByteArray).size<=1048576:=by decide
 rcases bs_ h with⟨_,e⟩ | ⟨_,e⟩ | ⟨_,_,e⟩ | ⟨f,e⟩
 ·exact key _ _ _ _ _ e h0 h0
 ·exact key _ _ _ _ _ e h0 h0
 ·rw[e]at d;exact key _ _ _ _ _ e (sn_ d).2.2.2.2 h0
 ·generalize v.kind=k at f e;rw[e]at d;rcases f with rfl | rfl | rfl | rfl
  ·have:=so_ d;exact key _ _ _ _ _ e this.2.2.2.2 (by rw[this.2.2.1];exact h0)
  ·have:=k7_ d;exact key _ _ _ _ _ e this.2.2.2.2 (by rw[this.2.2.1];exact h0)
  ·have:=oe_ d;exact key _ _ _ _ _ e this.2.2.2.2 (by rw[this.2.2.1];exact h0)
  ·have:=na_ d;exact key _ _ _ _ _ e this.2.2.2.1 this.2.2.2.2
theorem pp_ {n:Nat} (h:n<=1000000000):VI (n:Int):=by
 unfold VI Lit.wf;have h1:IntKind.i64.min = -9223372036854775808:=by rfl
 have h2:IntKind.i64.max=9223372036854775807:=by rfl
 simp;rw[h1];omega
theorem kn_ {K:Type} [DecidableEq K] {D:List K} {v:K} (h:v∈D):place D v<D.length:=by
 induction D with
 | nil=>cases h
 | cons a r d=>
  rw[i7_];split
  ·simp
  ·rename_i b;rcases List.mem_cons.1 h with e | e
   ·exact absurd e.symm b
   ·have:=d e;simp;omega
theorem rp_ {D:List h_} {v:h_} (h:v∈D) (b:D.length<=150000):VI (bf_ D v):=by
 unfold bf_;classical
 exact pp_ (by have:=kn_ h;omega)
theorem tl_ {k:ByteArray} {s:ByteArray} (b:k.size<=2000000) (d:s.size<=1048576):F6_ ⟨k,txV s⟩:=⟨b,by show T_ (h_.mk 4 false 0 s ⟨#[]⟩ [])<=2000000;have h0:(⟨#[]⟩:ByteArray).size=0:=rfl;simp only[T_,ab_,h0];omega⟩
theorem we_ (g:Int) {v:h_} (h:X_ v):qi_ (E_ g v):=by
 obtain⟨ht,f⟩:=jh_ h;have hz:=lk_ h
 have b:∀{P:ByteArray->Prop} {s:ByteArray},P s->∀x,x∈[s]->P x:=λd x f=>by
  rw[List.mem_singleton.1 f];exact d
 unfold E_;split
 ·refine⟨by simp,by simp,b (by decide),λp d=>?_⟩;rw[List.mem_singleton.1 d];exact tl_ (by decide) ht
 ·split
  ·refine⟨by simp,by simp,b (by decide),λp d=>?_⟩;rw[List.mem_singleton.1 d];exact tl_ (by decide) ht
  ·split
   ·refine⟨by simp,by simp,b (by decide),λp d=>?_⟩;rcases List.mem_cons.1 d with e | e
    ·rw[e];exact tl_ (by decide) ht
    ·rw[List.mem_singleton.1 e];exact tl_ (by decide) f
   ·refine⟨by simp,by simp,b (by decide),λp d=>?_⟩;rw[List.mem_singleton.1 d];exact⟨(by decide:sV.size<=2000000),by show T_ v<=2000000;omega⟩
theorem Jj_ {T:List d_} (f:(R_ T).length<=150000) (m:T.length<=65536) (j:∀v,v∈R_ T->X_ v) (d:∀t,t∈T->t.s∈R_ T/\t.o∈R_ T) (b:∀t,t∈T->X_ t.p):m7_ (af_ T):=by
 refine⟨?_,?_,λn g=>?_,λe h=>?_⟩
 ·show ((R_ T).mapIdx _).length<=_;rw[List.length_mapIdx];omega
 ·show (T.mapIdx _).length<=_;rw[List.length_mapIdx];omega
 ·obtain⟨i,hi,e⟩:=List.mem_mapIdx.1 g;rw[<-e];refine⟨we_ _ (j _ (List.getElem_mem hi)),?_⟩;rw[bd_];exact pp_ (by omega)
 ·obtain⟨i,hi,e⟩:=List.mem_mapIdx.1 h;rw[<-e];have ht:=List.getElem_mem hi;exact⟨⟨Nat.le_trans (jh_ (b _ ht)).1 (by decide),by simp,λp b=>by simp at b⟩,pp_ (by omega),rp_ (d _ ht).1 f,rp_ (d _ ht).2 f⟩
end
end Go.Proofs.YtefhfadjajcmkaaGreatDoor
