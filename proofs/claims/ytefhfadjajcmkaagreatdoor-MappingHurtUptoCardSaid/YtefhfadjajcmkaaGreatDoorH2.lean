/- Bytes that are read: take, number8, count, text. -/
import Derived.Test.YtefhfadjajcmkaaGreatDoorH1
import Derived.OneCell
import Derived.Laws.OwnMore
import Derived.Lib.AppendStr
set_option linter.unusedVariables false
set_option linter.unusedSimpArgs false
set_option maxRecDepth 100000
set_option maxHeartbeats 64000000
namespace Go.Proofs.YtefhfadjajcmkaaGreatDoor
open Go.Lib (cell_of_heap)
section
open Go Go.RowKit
theorem d3_ (v:h_) (q:U_ v<=10000000000000000) (F:Nat->Prop) (u:Value) (w:World) (h:∀g,F g->g<w.heap.size) (f:VRd w F v u) (c:M_ w) :
    Calls Tryz.prog 57 #[u] w (z_ (K_ v 0) w):=by
 obtain⟨A,j,m,i,y⟩:=f.inv;have a:=q_ (λo:Obj=>Hb_ (U_ v+1) v (by omega) q 0 (by omega) F u (w.alloc o) (λg c=>by have:=h g c;simp;omega) (f.under ((Below.refl _ _).alloc (Nat.le_refl _) _) h) (g_ c ((Below.refl _ _).alloc (Nat.le_refl _) _)));subst m;obtain⟨s,p⟩:=a_ (Value.slice A v.list.length j);obtain⟨B,d⟩:=a_ (K_ v 0);rw[d.o]at a;rw[d.o];rw[p.o]at a ⊢;clear y i c
 cases v with
 | mk k b n t x l=>
 unfold c_ at a ⊢;simp only[h_.kind,h_.truth,h_.num,h_.text,h_.extra]at a ⊢;clear f h;go_enter Tryz.func57,Tryz.ntmps57
 go_wp2_with fail;refine (a.o _).mono ?_;rintro e z ⟨rfl,hb⟩;have r:=q_ (((Below.refl w.heap.size w).alloc (Nat.le_refl _) (.cells #[.int .i64 k,.bool b,.int .i64 n,.string t,.string x,s] 39)).trans (hb.mono (by simp)));clear hb;go_wp2_with fail;go_ret;exact⟨rfl,r.o⟩
def if_ (cs:Nat->Array Value) (n:Nat):List Value:=(List.range n).flatMap λi=>(cs i).toList
theorem fn_ (cs:Nat->Array Value) (n:Nat):if_ cs (n+1)=if_ cs n++(cs n).toList:=by unfold if_;rw[List.range_succ];simp
theorem t8_ {cs ds:Nat->Array Value} {n:Nat} (h:∀i,i<n->cs i=ds i):if_ cs n=if_ ds n:=by
 induction n with
 | zero=>rfl
 | succ n a=>rw[fn_,fn_,a (λi hi=>h i (by omega)),h n (by omega)]
theorem so_ {cs:Nat->Array Value} {n:Nat} (h:∀i,i<n->(cs i).size=6):(if_ cs n).length=n*6:=by
 induction n with
 | zero=>rfl
 | succ n a=>rw[fn_,List.length_append,a (λi hi=>h i (by omega))];simp[h n (by omega)];omega
theorem De_ {cs:Nat->Array Value} {n i j:Nat} (h:∀i,i<n->(cs i).size=6) (hi:i<n) (d:j<6):(if_ cs n)[i*6+j]?=(cs i)[j]?:=by
 induction n with
 | zero=>omega
 | succ n b=>
  rw[fn_];have c:=so_ (cs:=cs) (n:=n) (λi hi=>h i (by omega));by_cases a:i=n
  ·subst a;rw[List.getElem?_append_right (by omega),c,show i*6+j-i*6=j by omega];simp
  ·rw[List.getElem?_append_left (by omega)];exact b (λi hi=>h i (by omega)) (by omega)
inductive ig_ (w:World):(Nat->Prop)->h_->Value->Prop where
 | mk (v:h_) (F:Nat->Prop) (s:Value) (cs:Nat->Array Value) (Fs:Nat->Nat->Prop) (hrow:w.ownsRow 0 39 6 s v.list.length (if_ cs v.list.length)) (h6:∀i,i<v.list.length->(cs i).size=6)
     (hF:∀g,s.ownBlock=some g->F g) (hFs:∀i b,i<v.list.length->Fs i b->F b/\s.ownBlock≠some b) (hdis:∀i j b,i<v.list.length->j<v.list.length->i≠j->Fs i b->¬Fs j b)
     (hr:∀i x,v.list[i]?=some x->ig_ w (Fs i) x (.agg (cs i))):ig_ w F v (.agg (c_ v s))
def gx_ (w:World) (F:Nat->Prop) (l:List h_) (s:Value):Prop:=
 ∃(cs:Nat->Array Value) (Fs:Nat->Nat->Prop),w.ownsRow 0 39 6 s l.length (if_ cs l.length)/\(∀i,i<l.length->(cs i).size=6)/\(∀g,s.ownBlock=some g->F g) /\
  (∀i b,i<l.length->Fs i b->F b/\s.ownBlock≠some b)/\(∀i j b,i<l.length->j<l.length->i≠j->Fs i b->¬Fs j b)/\∀i x,l[i]?=some x->ig_ w (Fs i) x (.agg (cs i))
section
variable {w w':World} {F F':Nat->Prop} {v:h_} {u s:Value} {l:List h_}
theorem ig_.inv (h:ig_ w F v u):∃s,u = .agg (c_ v s)/\gx_ w F v.list s:=by
 cases h with
 | mk _ _ s cs Fs b d f c a e=>exact⟨s,rfl,cs,Fs,b,d,f,c,a,e⟩
theorem ig_.of_list (h:gx_ w F v.list s):ig_ w F v (.agg (c_ v s)):=by obtain⟨cs,Fs,b,d,f,c,a,e⟩:=h;exact .mk v F s cs Fs b d f c a e
theorem ig_.turn (h:ig_ w F v u) {S:Nat->Prop} (m:Turn S w w') (f:∀b,F b->¬S b):ig_ w' F v u:=by
 induction h with
 | mk v F s cs Fs d k j a c p n=>
  exact .mk v F s cs Fs (m.owns d (λg o=>f g (j g o))) k j a c (λi x e=>n i x e (λb hb=>f b (a i b (by
   rcases Nat.lt_or_ge i v.list.length with h | h
   ·exact h
   ·rw[List.getElem?_eq_none h]at e;cases e) hb).1))
theorem ig_.mono (h:ig_ w F v u) (f:∀b,F b->F' b):ig_ w F' v u:=by
 cases h with
 | mk _ _ s cs Fs d j e a c k=>exact .mk v F' s cs Fs d j (λg m=>f g (e g m)) (λi b hi hb=>⟨f b (a i b hi hb).1,(a i b hi hb).2⟩) c k
theorem gx_.turn (h:gx_ w F l s) {S:Nat->Prop} (j:Turn S w w') (f:∀b,F b->¬S b):gx_ w' F l s:=by
 obtain⟨cs,Fs,d,m,k,a,c,n⟩:=h
 refine⟨cs,Fs,j.owns d (λg o=>f g (k g o)),m,k,a,c,λi x e=>(n i x e).turn j (λb hb=>f b (a i b (by
     rcases Nat.lt_or_ge i l.length with h | h
     ·exact h
     ·rw[List.getElem?_eq_none h]at e;cases e) hb).1)⟩
theorem gx_.mono (h:gx_ w F l s) (f:∀b,F b->F' b):gx_ w F' l s:=by obtain⟨cs,Fs,d,j,e,a,c,k⟩:=h;exact⟨cs,Fs,d,j,λg m=>f g (e g m),λi b hi hb=>⟨f b (a i b hi hb).1,(a i b hi hb).2⟩,c,k⟩
theorem gx_.nil (w:World) (F:Nat->Prop):gx_ w F [] (.slice none 0 0):=
 ⟨λ_=>#[],λ_ _=>False,World.ownsRow_nil _ _ _ _,(λ_ hi=>absurd hi (Nat.not_lt_zero _)),(λg b=>by cases b),(λ_ _ hi=>absurd hi (Nat.not_lt_zero _)),(λ_ _ _ hi=>absurd hi (Nat.not_lt_zero _)),(λi x a=>by simp at a)⟩
theorem gx_.form (h:gx_ w F l s):∃A b,s = .slice A l.length b:=by
 obtain⟨cs,Fs,a,_⟩:=h;rcases a.2 with⟨rfl,h0⟩ | ⟨g,c,d,rfl,_⟩
 ·exact⟨none,0,by rw[h0]⟩
 ·exact⟨_,c,rfl⟩
theorem yv_ {b e c:Nat} {A:Option Addr} {n a:Nat} {xs:List Value} (h:w.ownsRow b e c (.slice A n a) n xs):n<=a:=by
 rcases h.2 with⟨h0,h1⟩ | ⟨g,f,d,h0,_,_,h1,_⟩
 ·injection h0 with _ h2 h3;omega
 ·injection h0 with _ _ h3;omega
theorem Df_ {cs:Nat->Array Value} {A:Option Addr} {b:Nat} (a:w.ownsRow 0 39 6 (.slice A l.length b) l.length (if_ cs l.length)) (e:∀i,i<l.length->(cs i).size=6) (n:∀g,(Value.slice A l.length b).ownBlock=some g->F g)
    (m:∀i x,l[i]?=some x->VRd w F x (.agg (cs i))):LRd w F l A l.length:=by
 refine⟨rfl,λf=>?_⟩;obtain⟨g,o,d,_,_⟩:=a.form f;injection d with d _ hcp;subst d;subst hcp;refine⟨⟨g,0,none⟩,rfl,n g rfl,λi x c=>?_⟩
 have hi:i<l.length:=by
  rcases Nat.lt_or_ge i l.length with h | h
  ·exact h
  ·rw[List.getElem?_eq_none h]at c;cases c
 refine⟨cs i,e i hi,λj k=>?_,m i x c⟩;have h1:=a.cellAt (i*6+j) (by omega);rw[De_ e hi k]at h1;rw[<-h1];unfold Addr.add;split<;>simp_all
theorem ig_.rd (h:ig_ w F v u):VRd w F v u:=by
 induction h with
 | mk v F s cs Fs a j n e f p m=>
  obtain⟨A,c,rfl⟩:∃A c,s = .slice A v.list.length c:=by
   rcases a.2 with⟨rfl,h0⟩ | ⟨g,k,o,rfl,_⟩
   ·exact⟨none,0,by rw[h0]⟩
   ·exact⟨_,k,rfl⟩
  exact .of_list (yv_ a) (Df_ a j n (λi x d=>(m i x d).mono (λb hb=>(e i b (by
   rcases Nat.lt_or_ge i v.list.length with h | h
   ·exact h
   ·rw[List.getElem?_eq_none h]at d;cases d) hb).1)))
theorem gx_.rd (h:gx_ w F l s):∃A a,s = .slice A l.length a/\l.length<=a/\LRd w F l A l.length:=by
 obtain⟨A,a,rfl⟩:=h.form;obtain⟨cs,Fs,c,f,j,e,_,g⟩:=h
 exact⟨A,a,rfl,yv_ c,Df_ c f j (λi x d=>(g i x d).rd.mono (λb hb=>(e i b (by
     rcases Nat.lt_or_ge i l.length with h | h
     ·exact h
     ·rw[List.getElem?_eq_none h]at d;cases d) hb).1))⟩
theorem Dg_ {w5 w6:World} {F G:Nat->Prop} {l:List h_} {x:h_} {s sx:Value} {g4 c4:Nat} {cs:Nat->Array Value} {Fs:Nat->Nat->Prop}
    (I:∀i,i<l.length->(cs i).size=6) (B:∀g,s.ownBlock=some g->F g) (c:∀i b,i<l.length->Fs i b->F b/\s.ownBlock≠some b) (n:∀i j b,i<l.length->j<l.length->i≠j->Fs i b->¬Fs j b)
    (M:∀i y,l[i]?=some y->ig_ w5 (Fs i) y (.agg (cs i))) (J:gx_ w5 G x.list sx) (d:∀b,F b->¬G b) (t:∀b,F b->b<w5.heap.size) (p:∀b,G b->b<w5.heap.size)
    (E:w6.ownsRow 0 39 6 (.slice (some ⟨g4,0,none⟩) (l.length+1) c4) (l.length+1) (if_ cs l.length++(c_ x sx).toList)) (q:w5.grownBy w6 s.ownBlock) (z:s.ownBlock=some g4\/w5.heap.size<=g4) :
    gx_ w6 (λb=>F b\/G b\/b=g4) (l++[x]) (.slice (some ⟨g4,0,none⟩) (l.length+1) c4):=by
 have o:(l++[x]).length=l.length+1:=by simp
 have r:∀i,i<l.length->(λi=>if i<l.length then cs i else c_ x sx) i=cs i:=λi hi=>if_pos hi
 have A:∀i b,i<l.length->Fs i b->b≠g4:=λi b hi hb e=>by
  obtain⟨h1,L⟩:=c i b hi hb;rcases z with h | h
  ·exact L (by rw[h,e])
  ·have:=t b h1;omega
 have D:∀b,G b->b≠g4:=λb hb e=>by
  rcases z with h | h
  ·exact d b (by rw[e];exact B g4 h) hb
  ·have:=p b hb;omega
 refine⟨λi=>if i<l.length then cs i else c_ x sx,λi=>if i<l.length then Fs i else G,?_,λi hi=>?_,λg m=>?_,λi b hi hb=>?_,λi j b hi N C hb a=>?_,λi y f=>?_⟩
 ·rw[o,fn_,t8_ r,if_neg (Nat.lt_irrefl _)];exact E
 ·by_cases h:i<l.length
  ·simp only[if_pos h];exact I i h
  ·simp only[if_neg h];rfl
 ·injection m with m;exact .inr (.inr m.symm)
 ·by_cases h:i<l.length
  ·simp only[if_pos h]at hb;exact⟨.inl (c i b h hb).1,λe=>by injection e with e;exact A i b h hb e.symm⟩
  ·simp only[if_neg h]at hb;exact⟨.inr (.inl hb),λe=>by injection e with e;exact D b hb e.symm⟩
 ·by_cases h:i<l.length
  ·simp only[if_pos h]at hb;by_cases k:j<l.length
   ·simp only[if_pos k]at a;exact n i j b h k C hb a
   ·simp only[if_neg k]at a;exact d b (c i b h hb).1 a
  ·simp only[if_neg h]at hb;by_cases k:j<l.length
   ·simp only[if_pos k]at a;exact d b (c j b k a).1 hb
   ·omega
 ·by_cases h:i<l.length
  ·simp only[if_pos h];rw[List.getElem?_append_left h]at f;exact (M i y f).turn (Turn.of_grown q) λb hb e=>(c i b h hb).2 e.symm
  ·simp only[if_neg h]
   have hi:i=l.length:=by
    rcases Nat.lt_or_ge i (l++[x]).length with h1 | h1
    ·omega
    ·rw[List.getElem?_eq_none h1]at f;cases f
   subst hi;simp at f;subst f;exact (ig_.of_list J).turn (Turn.of_grown q) λb hb e=>d b (B b e.symm) hb
end
def Dh_ (l:List h_) (w:World) (e:Ending) (w':World):Prop:=∃s,e = .returned s/\Below w.heap.size w w'/\gx_ w' (λb=>w.heap.size<=b/\b<w'.heap.size) l s
def Hc_ (v:h_) (w:World) (e:Ending) (w':World):Prop:=∃s,e = .returned (.agg (c_ v s))/\Below w.heap.size w w'/\gx_ w' (λb=>w.heap.size<=b/\b<w'.heap.size) v.list s
theorem qy_ (v:h_) {F:Nat->Prop} (A:Option Addr) (f:Nat) (w:World) (V:∀g,F g->g<w.heap.size) (U:LRd w F v.list A v.list.length)
    (D:∀w',LRd w' F v.list A v.list.length->(∀g,F g->g<w'.heap.size)->Calls Tryz.prog 110 #[.slice A v.list.length f] w' (Dh_ v.list w')) :
    Calls Tryz.prog 44 #[.agg (c_ v (.slice A v.list.length f))] w (Hc_ v w):=by
 obtain⟨k,t,n,s,x,l⟩:=v;unfold c_;simp only[h_.kind,h_.truth,h_.num,h_.text,h_.extra,h_.list]at U D ⊢;have O:=q_ (D_ w (.cells #[.int .i64 k,.bool t,.int .i64 n,.string s,.string x,.slice A l.length f] 39) (.cells #[.int .i64 0,.bool false,.int .i64 0,.string ⟨#[]⟩,.string ⟨#[]⟩,.slice none 0 0] 39));have G:((w.alloc (.cells #[.int .i64 k,.bool t,.int .i64 n,.string s,.string x,.slice A l.length f] 39)).alloc (.cells #[.int .i64 0,.bool false,.int .i64 0,.string ⟨#[]⟩,.string ⟨#[]⟩,.slice none 0 0] 39)).heap.size=w.heap.size+2:=by simp
 have B:((w.alloc (.cells #[.int .i64 k,.bool t,.int .i64 n,.string s,.string x,.slice A l.length f] 39)).alloc (.cells #[.int .i64 0,.bool false,.int .i64 0,.string ⟨#[]⟩,.string ⟨#[]⟩,.slice none 0 0] 39)).heap[w.heap.size]?=some (.cells #[.int .i64 k,.bool t,.int .i64 n,.string s,.string x,.slice A l.length f] 39 (0,0)):=by rw[Below.heap_alloc _ _ _ (by simp)];exact heap_alloc_new w _
 have E:((w.alloc (.cells #[.int .i64 k,.bool t,.int .i64 n,.string s,.string x,.slice A l.length f] 39)).alloc (.cells #[.int .i64 0,.bool false,.int .i64 0,.string ⟨#[]⟩,.string ⟨#[]⟩,.slice none 0 0] 39)).heap[w.heap.size+1]?=some (.cells #[.int .i64 0,.bool false,.int .i64 0,.string ⟨#[]⟩,.string ⟨#[]⟩,.slice none 0 0] 39 (0,0)):=by have:=heap_alloc_new (w.alloc (.cells #[.int .i64 k,.bool t,.int .i64 n,.string s,.string x,.slice A l.length f] 39)) (.cells #[.int .i64 0,.bool false,.int .i64 0,.string ⟨#[]⟩,.string ⟨#[]⟩,.slice none 0 0] 39);simpa using this
 obtain⟨z,P⟩:=a_ w.heap.size;obtain⟨Z,R⟩:=a_ ((w.alloc (.cells #[.int .i64 k,.bool t,.int .i64 n,.string s,.string x,.slice A l.length f] 39)).alloc (.cells #[.int .i64 0,.bool false,.int .i64 0,.string ⟨#[]⟩,.string ⟨#[]⟩,.slice none 0 0] 39));rw[R.o]at O G B E;have HC:=q_ (D Z (U.under O.o V) (λg hg=>by have:=V g hg;have:=O.o.size;omega));rw[P.o]at O G B E;have a3:=q_ B;have X:=q_ E;have r:=q_ G;have c5:Z.cell? ⟨z,5,none⟩=some (.slice A l.length f):=cell_of_heap B 5;clear U D V B E G;go_enter Tryz.func44,Tryz.ntmps44
 go_upto_region 1 with fail;rw[R.o,P.o];go_wp2_with fail;refine HC.o.mono ?_;rintro e w5 ⟨s',rfl,C,J⟩;obtain⟨m,d,rfl⟩:=J.form;have a1:=q_ J;have Y:=q_ C;have a4:z+2<=w5.heap.size:=by have:=C.size;have:=r.o;omega
 have y:=q_ ((C.block z (by have:=r.o;omega)).trans a3.o);have T:=q_ ((C.block (z+1) (by have:=r.o;omega)).trans X.o);have d0:w5.cell? ⟨z,0,none⟩=some (.int .i64 k):=cell_of_heap y.o 0;have d5:w5.cell? ⟨z,5,none⟩=some (.slice A l.length f):=cell_of_heap y.o 5;have f5:w5.frozen? ⟨z,5,none⟩=false:=Lib.frozen_of_heap y.o 5;have j:=heap_setCell_same w5 z 5 _ 39 (.slice m l.length d) y.o;have a:(w5.setCell ⟨z,5,none⟩ (.slice m l.length d)).heap[z+1]?=_:=(Below.heap_setCell w5 ⟨z,5,none⟩ (.slice m l.length d) (z+1) (by simp)).trans T.o;have L:=(Turn.refl (λb=>b=z\/b=z+1) w5).setCell (p:=⟨z,5,none⟩) (.inr (.inl rfl)) (.slice m l.length d);obtain⟨c,S⟩:=a_ (w5.setCell ⟨z,5,none⟩ (.slice m l.length d));rw[S.o]at j a L;have g0:c.cell? ⟨z,0,none⟩=some (.int .i64 k):=cell_of_heap j 0;have g1:c.cell? ⟨z,1,none⟩=some (.bool t):=cell_of_heap j 1;have g2:c.cell? ⟨z,2,none⟩=some (.int .i64 n):=cell_of_heap j 2;have g3:c.cell? ⟨z,3,none⟩=some (.string s):=cell_of_heap j 3;have g4:c.cell? ⟨z,4,none⟩=some (.string x):=cell_of_heap j 4;have g5:c.cell? ⟨z,5,none⟩=some (.slice m l.length d):=cell_of_heap j 5;have r0:c.cell? ⟨z+1,0,none⟩=some (.int .i64 0):=cell_of_heap a 0;have y0:c.frozen? ⟨z+1,0,none⟩=false:=Lib.frozen_of_heap a 0;have r1:c.cell? ⟨z+1,1,none⟩=some (.bool false):=cell_of_heap a 1;have y1:c.frozen? ⟨z+1,1,none⟩=false:=Lib.frozen_of_heap a 1;have r2:c.cell? ⟨z+1,2,none⟩=some (.int .i64 0):=cell_of_heap a 2;have y2:c.frozen? ⟨z+1,2,none⟩=false:=Lib.frozen_of_heap a 2;have r3:c.cell? ⟨z+1,3,none⟩=some (.string ⟨#[]⟩):=cell_of_heap a 3;have y3:c.frozen? ⟨z+1,3,none⟩=false:=Lib.frozen_of_heap a 3;have r4:c.cell? ⟨z+1,4,none⟩=some (.string ⟨#[]⟩):=cell_of_heap a 4;have y4:c.frozen? ⟨z+1,4,none⟩=false:=Lib.frozen_of_heap a 4;have r5:c.cell? ⟨z+1,5,none⟩=some (.slice none 0 0):=cell_of_heap a 5;have y5:c.frozen? ⟨z+1,5,none⟩=false:=Lib.frozen_of_heap a 5;have a5:=q_ j;have W:=q_ a;have a0:=q_ L;clear C J j a L c5;go_upto_region 2 with fail;rw[S.o];go_wp2_with fail;have q:((((((c.setCell ⟨z+1,0,none⟩ (.int .i64 k)).setCell ⟨z+1,1,none⟩ (.bool t)).setCell ⟨z+1,2,none⟩ (.int .i64 n)).setCell ⟨z+1,3,none⟩ (.string s)).setCell ⟨z+1,4,none⟩ (.string x)).setCell ⟨z+1,5,none⟩ (.slice m l.length d)).heap[z+1]?=some (.cells #[.int .i64 k,.bool t,.int .i64 n,.string s,.string x,.slice m l.length d] 39 (0,0)):=(heap_setCell_same _ (z+1) 5 _ 39 _ (heap_setCell_same _ (z+1) 4 _ 39 _ (heap_setCell_same _ (z+1) 3 _ 39 _ (heap_setCell_same _ (z+1) 2 _ 39 _ (heap_setCell_same _ (z+1) 1 _ 39 _ (heap_setCell_same _ (z+1) 0 _ 39 _ W.o))))));have M:Turn (λb=>b=z\/b=z+1) w5 ((((((c.setCell ⟨z+1,0,none⟩ (.int .i64 k)).setCell ⟨z+1,1,none⟩ (.bool t)).setCell ⟨z+1,2,none⟩ (.int .i64 n)).setCell ⟨z+1,3,none⟩ (.string s)).setCell ⟨z+1,4,none⟩ (.string x)).setCell ⟨z+1,5,none⟩ (.slice m l.length d)):=((((((a0.o.setCell (p:=⟨z+1,0,none⟩) (.inr (.inr rfl)) _).setCell (p:=⟨z+1,1,none⟩) (.inr (.inr rfl)) _).setCell (p:=⟨z+1,2,none⟩) (.inr (.inr rfl)) _).setCell (p:=⟨z+1,3,none⟩) (.inr (.inr rfl)) _).setCell (p:=⟨z+1,4,none⟩) (.inr (.inr rfl)) _).setCell (p:=⟨z+1,5,none⟩) (.inr (.inr rfl)) _);obtain⟨I,a2⟩:=a_ ((((((c.setCell ⟨z+1,0,none⟩ (.int .i64 k)).setCell ⟨z+1,1,none⟩ (.bool t)).setCell ⟨z+1,2,none⟩ (.int .i64 n)).setCell ⟨z+1,3,none⟩ (.string s)).setCell ⟨z+1,4,none⟩ (.string x)).setCell ⟨z+1,5,none⟩ (.slice m l.length d));rw[a2.o]at q M ⊢;have q0:I.cell? ⟨z+1,0,none⟩=some (.int .i64 k):=cell_of_heap q 0;have q1:I.cell? ⟨z+1,1,none⟩=some (.bool t):=cell_of_heap q 1;have q2:I.cell? ⟨z+1,2,none⟩=some (.int .i64 n):=cell_of_heap q 2;have q3:I.cell? ⟨z+1,3,none⟩=some (.string s):=cell_of_heap q 3;have q4:I.cell? ⟨z+1,4,none⟩=some (.string x):=cell_of_heap q 4;have q5:I.cell? ⟨z+1,5,none⟩=some (.slice m l.length d):=cell_of_heap q 5;have N:=q_ M;clear M q r0 r1 r2 r3 r4 r5 y0 y1 y2 y3 y4 y5 g0 g1 g2 g3 g4 g5 d0 d5 f5;go_wp2_with fail;refine bodyPost_ret (v:=.agg #[.int .i64 k,.bool t,.int .i64 n,.string s,.string x,.slice m l.length d]) (by simp[results,Tryz.results44,go_sem,q0,q1,q2,q3,q4,q5]) rfl ⟨.slice m l.length d,rfl,?_,?_⟩
 ·rw[P.o];exact (O.o.trans (Y.o.mono (by have:=r.o;omega))).trans (N.o.below (λi _ h=>by omega) (by omega))
 ·have h1:=a1.o.turn N.o (λb hb h=>by have:=r.o;omega);refine h1.mono λb hb=>⟨?_,?_⟩
  ·have:=r.o;have:=P.o;omega
  ·have:=N.o.size;omega
theorem yw_:(Tryz.prog.info? 39).map (λi=>(i.zero,i.size,i.bytes))=some (some (.agg #[.int .i64 0,.bool false,.int .i64 0,.string ⟨#[]⟩,.string ⟨#[]⟩,.slice none 0 0]),6,80):=by kernel_rfl
theorem yx_ (x:h_) (B:Option Addr) (n c:Nat):∀u∈(c_ x (.slice B n c)).toList,u.oneCell'=true:=by intro u a;simp[c_]at a;rcases a with h | h | h | h | h | h<;>subst h<;>rfl
theorem Di_ (N:Nat):∀(l:List h_) (_:af_ l<N) (_:af_ l<=100000000) (F:Nat->Prop) (A:Option Addr) (n S:Nat) (w:World) (_:∀g,F g->g<w.heap.size) (_:LRd w F l A n),
    Calls Tryz.prog 110 #[.slice A n S] w (Dh_ l w):=by
 induction N with
 | zero=>exact λ_ h=>absurd h (Nat.not_lt_zero _)
 | succ N ih=>
  intro l hN hs F A n S w hF E;have HL:=q_ E;have HF:=q_ hF;have IH:=q_ ih;have ag:n<=l.length:=Nat.le_of_eq E.1;have ac:l.length<=n:=Nat.le_of_eq E.1.symm;have ab:=dd_ l;clear E hF ih;go_enter Tryz.func110,Tryz.ntmps110
  go_wp2_with fail;go_loopw [3,4] (λs3 s4 wr=>∃k:Nat,k<=n/\s4 = .int .i64 (k:Nat)/\Below w.heap.size w wr/\gx_ wr (λb=>w.heap.size<=b/\b<wr.heap.size) (l.take k) s3) (λ_ s4 _=>n-(intOf s4).toNat)
  case atStart=>exact⟨0,by omega,rfl,Below.refl _ _,gx_.nil _ _⟩
  case round=>
   obtain⟨k,hk,rfl,r,p⟩:=hrel;have X:=q_ r;have C:=q_ p;have a9:=q_ (HL.o.under r HF.o);have T:w.heap.size<=wr.heap.size:=r.size;have i:(l.take k).length=k:=by simp;omega
   have m:=q_ i;obtain⟨I,J,h3⟩:=p.form;rw[i]at h3;subst h3;clear r p i;by_cases af:k<n
   ·obtain⟨x,P⟩:∃x,l[k]?=some x:=⟨l[k]'(by omega),List.getElem?_eq_getElem _⟩;have a3:=fc_ (List.mem_of_getElem? P);have a6:=fj_ x;obtain⟨ad,sx,rfl,_,⟨Bx,cx,rfl,_,U⟩,_,d0,d1,d2,d3,d4,d5⟩:=a9.o.cellsAt P;have HC:=q_ (qy_ x Bx cx wr (F:=F) (λg hg=>Nat.lt_of_lt_of_le (HF.o g hg) T) U (λw' h1 h2=>IH.o x.list (by omega) (by omega) F Bx _ cx w' h2 h1));have HX:=q_ P;have e1:(0:Int)<=k:=by omega
    have e2:(k:Int)<n:=by omega
    clear P a3 a6 U;unfold c_ at HC;obtain⟨lx,f⟩:=a_ x.list.length;rw[f.o]at d5 HC;go_wp2_with fail;refine HC.o.mono ?_;rintro e w5 ⟨s',rfl,q,z⟩;obtain⟨A',R,rfl⟩:=z.form;unfold c_;rw[f.o];have Z:=q_ z;have a5:=q_ q;obtain⟨cs,Fs,j,O,c,y,a,L⟩:=C.o.turn (Turn.of_below q) (λb hb h=>by omega);rw[m.o]at j;have a2:=q_ j;have ah:wr.heap.size<=w5.heap.size:=q.size;have M:=q_ (And.intro O (And.intro c (And.intro y (And.intro a L))));rw[f.o]at Z;clear q z j O c y a L;go_wp2_with (at_builtin;refine i0_ rfl _ _ 37 rfl 0 39 (.agg #[.int .i64 0,.bool false,.int .i64 0,.string ⟨#[]⟩,.string ⟨#[]⟩,.slice none 0 0]) 6 80 Tryz.underlying37 yw_ rfl (by decide) _ _ _ rfl a2.o (Nat.zero_le _) _ 1 1 rfl rfl (yx_ x A' lx R) (by omega) (by omega) (by decide) ?_)
    intro g4 c4 w6 d Y W;have a7:=q_ d;have B:=q_ (show w5.grownBy w6 (Value.slice I k J).ownBlock from Y);have a0:=q_ (show (Value.slice I k J).ownBlock=some g4\/w5.heap.size<=g4 from W);clear d Y W;go_wp2_with fail;go_roundw
    case rel=>
     obtain⟨O,c,y,a,L⟩:=M.o;have D:=Z.o;rw[<-f.o]at D;have d:=a7.o;have a4:g4<w6.heap.size:=(d.lt g4 rfl).2;have ae:w5.heap.size<=w6.heap.size:=B.o.size;have t:∀b,some b=(Value.slice I k J).ownBlock->w.heap.size<=b:=λb hb=>(c b hb.symm).1
     have a1:=Dg_ (w5:=w5) (w6:=w6) (F:=λb=>w.heap.size<=b/\b<wr.heap.size) (G:=λb=>wr.heap.size<=b/\b<w5.heap.size) (l:=l.take k) (x:=x) (s:=.slice I k J) (sx:=.slice A' x.list.length R) (g4:=g4) (c4:=c4) (cs:=cs) (Fs:=Fs) O c y a L D
      (λb hb h=>by obtain⟨_,h1⟩:=hb;obtain⟨h2,_⟩:=h;omega) (λb hb=>by obtain⟨_,h1⟩:=hb;omega) (λb hb=>hb.2) (by
      rw[m.o];unfold c_;rw[f.o];exact d) B.o a0.o
     rw[m.o]at a1;refine⟨k+1,by omega,by go_num,(X.o.trans (a5.o.mono T)).trans ((Turn.of_grown B.o).below (λb _ hb=>t b hb) (by omega)),?_⟩;rw[f_ HX.o];refine a1.mono λb hb=>?_;rcases hb with hb | hb | hb
     ·exact⟨hb.1,by omega⟩
     ·exact⟨by omega,by omega⟩
     ·subst hb;refine⟨?_,a4⟩;rcases a0.o with h | h
      ·exact t b h.symm
      ·omega
    case measure=>simp[intOf];omega
   ·have a8:k=n:=by omega
    subst a8;have V:l.take k=l:=List.take_of_length_le (by omega);have aa:=q_ V;clear V;go_wp2_with fail;go_ret;exact⟨_,rfl,X.o,by have h:=C.o;rw[aa.o]at h;exact h⟩
end
section
open Go Go.RowKit Go.Maps Go.WideMaps
def beN (W m:Nat):List UInt8:=(List.range W).map λj=>UInt8.ofNat (m / 2 ^ (8*(W-1-j)) % 256)
theorem cl_ (W m:Nat):(beN W m).length=W:=by simp[beN]
structure c3_ (v v':Value) (w w':World):Prop where
 turn:Turn (λi=>some i=v.ownBlock) w w'
 lies:v'.ownBlock=v.ownBlock\/∀g,v'.ownBlock=some g->w.heap.size<=g
theorem c3_.refl (v:Value) (w:World):c3_ v v w w:=⟨Turn.refl _ _,.inl rfl⟩
theorem c3_.trans {v d j:Value} {w f w2:World} (h:c3_ v d w f) (k:c3_ d j f w2):c3_ v j w w2:=by
 refine⟨h.turn.andThen k.turn (λi hi c=>?_),?_⟩
 ·rcases h.lies with e | e
  ·rw[<-e];exact c
  ·have:=e i c.symm;omega
 ·rcases k.lies with e | e
  ·rcases h.lies with a | a
   ·exact .inl (e.trans a)
   ·exact .inr (λg b=>a g (by rw[<-e];exact b))
  ·exact .inr λg b=>Nat.le_trans h.turn.size (e g b)
theorem c3_.below {v:Value} {w w':World} (h:Below w.heap.size w w'):c3_ v v w w':=⟨(Turn.of_below h).mono (λi hi a=>by omega),.inl rfl⟩
theorem c3_.keeps {v a:Value} {w w':World} (h:c3_ v a w w') {g:Nat} (c:g<w.heap.size) (b:v.ownBlock≠some g):w'.heap[g]?=w.heap[g]?:=h.turn.block g c (λe=>b e.symm)
def jw_ (B:Nat) (v:Value) (L M:List UInt8) (w:World) (e:Ending) (w':World):Prop:=
 ∃a,e = .returned a/\w'.ownsRow B 5 1 a (L++M).length (Lib.byteCells (L++M))/\c3_ v a w w'
theorem b0_ (a b:List UInt8):Lib.byteCells (a++b)=Lib.byteCells a++Lib.byteCells b:=by unfold Lib.byteCells;exact List.map_append
theorem ol_ (W m j:Nat) (k:Nat) (a:k=W-1-j):Value.int .u8 ((m:Int) / 2 ^ (8*k) % 256) = .int .u8 ((UInt8.ofNat (m / 2 ^ (8*(W-1-j)) % 256)).toNat:Int):=by subst a;generalize 8*(W-1-j)=e;rw[UInt8.toNat_ofNat'];have h:m / 2 ^ e % 256 % 2 ^ 8=m / 2 ^ e % 256:=Nat.mod_eq_of_lt (Nat.mod_lt _ (by decide));rw[h,Int.natCast_emod,Int.natCast_ediv,Int.natCast_pow];rfl
def yy_ (n:Int) (j:Nat):Value:=.int .u8 (n / 2 ^ (8*(7-j)) % 256)
theorem Ld_ (B:Nat) (v:Value) (xs:List Value) (n:Int) (w:World) (S:xs.length<=60000000) (J:w.ownsRow B 5 1 v xs.length xs) (G:B<=w.heap.size) :
    Calls Tryz.prog 267 #[v,.int .u64 n,.int .i64 8] w λe w'=>∃f,e = .returned f/\w'.ownsRow B 5 1 f (xs.length+8) (xs++(List.range 8).map (yy_ n))/\Turn (λi=>some i=v.ownBlock) w w'/\(f.ownBlock=v.ownBlock\/∀g,f.ownBlock=some g->w.heap.size<=g):=by
 go_enter Tryz.func267,Tryz.ntmps267
 go_wp2
 go_loopw [0,7] (λu i wr=>∃(k:Nat),k<=8/\i = .int .i64 (7-(k:Int))/\wr.ownsRow B 5 1 u (xs.length+k) (xs++(List.range k).map (yy_ n))/\Turn (λi=>some i=v.ownBlock) w wr/\(u.ownBlock=v.ownBlock\/∀g,u.ownBlock=some g->w.heap.size<=g)) (λ_ i _=>(intOf i+1).toNat)
 case atStart=>exact⟨0,by omega,rfl,by simpa using J,Turn.refl _ _,.inl rfl⟩
 case round=>
  obtain⟨k,P,rfl,c,d,A⟩:=hrel;have D:=q_ c;have z:=q_ d;have r:=q_ A;have C:B<=wr.heap.size:=Nat.le_trans G d.size;have N:w.heap.size<=wr.heap.size:=d.size;clear c d A;by_cases L:k<8
  ·have R:decide ((0:Int)<=7-k)=true:=decide_eq_true (by omega);have O:(0:Int)<=7-k:=by omega
   go_wp2_with (at_builtin;refine i0_ rfl _ _ 197 rfl B 5 (.int .u8 0) 1 1 Tryz.underlying197 infoByte rfl (by decide) _ _ _ rfl D.o C #[.int .u8 _] 1 1 rfl rfl (se_ _) (by omega) (by omega) (by decide) ?_)
   intro g4 M I j p m;have y:=q_ j;have E:=q_ (show wr.grownBy I u0.ownBlock from p);have x:=q_ (show u0.ownBlock=some g4\/wr.heap.size<=g4 from m);clear j p m;go_wp2
   go_roundw
   case rel=>
    refine⟨k+1,by omega,by go_num,?_,?_,?_⟩
    ·have:=y.o;rw[List.range_succ,List.map_append];simpa [yy_,Nat.add_assoc] using this
    ·refine z.o.andThen (Turn.of_grown E.o) λi hi h=>?_;rcases r.o with a | a
     ·rw[<-a];exact h
     ·have:=a i h.symm;omega
    ·rcases x.o with a | a
     ·rcases r.o with q | q
      ·left;rw[<-q,a];rfl
      ·right;intro g b;exact q g (by rw[a];exact b)
     ·right;intro g b;injection b with b;have b:g4=g:=b;omega
   case measure=>simp[intOf];omega
  ·have t:k=8:=by omega
   subst t;go_wp2
   go_ret;exact⟨_,rfl,D.o,z.o,r.o⟩
theorem om_ (B:Nat) (v:Value) (L:List UInt8) (m:Nat) (w:World) (o:L.length<=60000000) (n:w.ownsRow B 5 1 v L.length (Lib.byteCells L)) (f:B<=w.heap.size) :
    Calls Tryz.prog 267 #[v,.int .u64 (m:Int),.int .i64 8] w (jw_ B v L (beN 8 m) w):=by
 have b:=Lib.byteCells_length L;have h:=Ld_ B v (Lib.byteCells L) (m:Int) w (by omega) (by rw[b];exact n) f;refine h.mono ?_;rintro e w' ⟨k,d,a,i,c⟩;refine⟨k,d,?_,i,c⟩;rw[b0_,List.length_append,cl_];rw[b]at a;have g:(List.range 8).map (yy_ (m:Int))=Lib.byteCells (beN 8 m):=by unfold Lib.byteCells beN;rw[List.map_map];refine List.map_congr_left λj _=>?_;exact ol_ 8 m j (7-j) rfl
 rw[<-g];exact a
def yz_ (n:Int) (j:Nat):Value:=.int .u8 (n / 2 ^ (8*(3-j)) % 256)
theorem Le_ (B:Nat) (v:Value) (xs:List Value) (n:Int) (w:World) (S:xs.length<=60000000) (J:w.ownsRow B 5 1 v xs.length xs) (G:B<=w.heap.size) :
    Calls Tryz.prog 267 #[v,.int .u64 n,.int .i64 4] w λe w'=>∃f,e = .returned f/\w'.ownsRow B 5 1 f (xs.length+4) (xs++(List.range 4).map (yz_ n))/\Turn (λi=>some i=v.ownBlock) w w'/\(f.ownBlock=v.ownBlock\/∀g,f.ownBlock=some g->w.heap.size<=g):=by
 go_enter Tryz.func267,Tryz.ntmps267
 go_wp2
 go_loopw [0,7] (λu i wr=>∃(k:Nat),k<=4/\i = .int .i64 (3-(k:Int))/\wr.ownsRow B 5 1 u (xs.length+k) (xs++(List.range k).map (yz_ n))/\Turn (λi=>some i=v.ownBlock) w wr/\(u.ownBlock=v.ownBlock\/∀g,u.ownBlock=some g->w.heap.size<=g)) (λ_ i _=>(intOf i+1).toNat)
 case atStart=>exact⟨0,by omega,rfl,by simpa using J,Turn.refl _ _,.inl rfl⟩
 case round=>
  obtain⟨k,P,rfl,c,d,A⟩:=hrel;have D:=q_ c;have z:=q_ d;have r:=q_ A;have C:B<=wr.heap.size:=Nat.le_trans G d.size;have N:w.heap.size<=wr.heap.size:=d.size;clear c d A;by_cases L:k<4
  ·have R:decide ((0:Int)<=3-k)=true:=decide_eq_true (by omega);have O:(0:Int)<=3-k:=by omega
   go_wp2_with (at_builtin;refine i0_ rfl _ _ 197 rfl B 5 (.int .u8 0) 1 1 Tryz.underlying197 infoByte rfl (by decide) _ _ _ rfl D.o C #[.int .u8 _] 1 1 rfl rfl (se_ _) (by omega) (by omega) (by decide) ?_)
   intro g4 M I j p m;have y:=q_ j;have E:=q_ (show wr.grownBy I u0.ownBlock from p);have x:=q_ (show u0.ownBlock=some g4\/wr.heap.size<=g4 from m);clear j p m;go_wp2
   go_roundw
   case rel=>
    refine⟨k+1,by omega,by go_num,?_,?_,?_⟩
    ·have:=y.o;rw[List.range_succ,List.map_append];simpa [yz_,Nat.add_assoc] using this
    ·refine z.o.andThen (Turn.of_grown E.o) λi hi h=>?_;rcases r.o with a | a
     ·rw[<-a];exact h
     ·have:=a i h.symm;omega
    ·rcases x.o with a | a
     ·rcases r.o with q | q
      ·left;rw[<-q,a];rfl
      ·right;intro g b;exact q g (by rw[a];exact b)
     ·right;intro g b;injection b with b;have b:g4=g:=b;omega
   case measure=>simp[intOf];omega
  ·have t:k=4:=by omega
   subst t;go_wp2
   go_ret;exact⟨_,rfl,D.o,z.o,r.o⟩
theorem t9_ (B:Nat) (v:Value) (L:List UInt8) (m:Nat) (w:World) (o:L.length<=60000000) (n:w.ownsRow B 5 1 v L.length (Lib.byteCells L)) (f:B<=w.heap.size) :
    Calls Tryz.prog 267 #[v,.int .u64 (m:Int),.int .i64 4] w (jw_ B v L (beN 4 m) w):=by
 have b:=Lib.byteCells_length L;have h:=Le_ B v (Lib.byteCells L) (m:Int) w (by omega) (by rw[b];exact n) f;refine h.mono ?_;rintro e w' ⟨k,d,a,i,c⟩;refine⟨k,d,?_,i,c⟩;rw[b0_,List.length_append,cl_];rw[b]at a;have g:(List.range 4).map (yz_ (m:Int))=Lib.byteCells (beN 4 m):=by unfold Lib.byteCells beN;rw[List.map_map];refine List.map_congr_left λj _=>?_;exact ol_ 4 m j (3-j) rfl
 rw[<-g];exact a
open Go.Lib in
theorem Hd_ {P:Program} {w:World} (a:Nat) (t u ty e:TypeId) (i:TypeInfo) (q:P.underlying t=some (.slice e)) (p:P.underlying u=some .string) (hi:P.info? e=some i) (hz:i.zero=some (.int .u8 0))
    (b:i.size=1) (j:i.bytes=1) (v:Value) (n:Nat) (xs:List Value) (c:w.ownsRow a e 1 v n xs) (s:ByteArray) (hb:n+s.size<=100000000) (m:a<=w.heap.size) :
    ∃h w',(Builtin.append_ #[t,u] ty #[v,.string s]).run P w = .ok h w'/\w'.ownsRow a e 1 h (n+s.size) (xs++strCells s)/\w.grownBy w' v.ownBlock/\(h.ownBlock=v.ownBlock\/h.ownBlock=some w.heap.size):=by
 obtain⟨h,w',f,h1,C,z⟩:=run_append_own_string (P:=P) w a t u ty e i q p hi hz b j v n xs c s (by unfold maxLen;omega) (by omega) m;refine⟨h,w',f,h1,C,?_⟩;have r:xs.length=n:=by simpa using c.1
 rcases c.2 with⟨rfl,rfl⟩ | ⟨g,k,x,rfl,D,A,G,I,E,y⟩
 ·by_cases B:s.size=0
  ·rw[z.2 ⟨rfl,B⟩];exact .inl rfl
  ·have d:=run_append_nil_string (P:=P) w t u ty e i (.int .u8 0) q p hi hz s (by omega) (by omega) (by rw[j];omega);rw[d]at f;injection f with hv _;rw[<-hv];exact .inr rfl
 ·by_cases o:n+s.size<=k
  ·have d:=run_append_room_string (P:=P) w t u ty e i q p hi b g n k x A s o (by omega);rw[d]at f;injection f with hv _;rw[<-hv];exact .inl rfl
  ·have d:=run_append_grow_string (P:=P) w t u ty e i (.int .u8 0) q p hi hz ⟨g,0,none⟩ n k xs (by rw[b];simpa using r) (c.cells (g:=g) rfl) s (by omega) (by omega) (by rw[j];exact growslice_fits (by omega) (by omega));rw[d]at f;injection f with hv _;rw[<-hv];exact .inr rfl
open Go.Lib in
theorem Dj_ {P:Program} {w:World} {g:Array Oper} {rest:List Oper} {o:Oper} {a:Act} {Q:Exit->Act->World->Prop} (k:o.guard=none) (q x:Operand) (t u:TypeId)
    (C:o.op = .call { callee:=.builtin .append,args:=#[q,x],argTypes:=#[t,u] })
    (b:Nat) (e:TypeId) (E:P.underlying t=some (.slice e)) (D:P.underlying u=some .string) (f:(P.info? e).map (λi=>(i.zero,i.size,i.bytes))=some (some (.int .u8 0),1,1))
    (v:Value) (n:Nat) (xs:List Value) (B:a.eval q=v) (j:w.ownsRow b e 1 v n xs) (s:ByteArray) (G:a.eval x = .string s) (hb:n+s.size<=100000000) (d:b<=w.heap.size)
    (h:∀c w',w'.ownsRow b e 1 c (n+s.size) (xs++strCells s)->w.grownBy w' v.ownBlock->(c.ownBlock=v.ownBlock\/c.ownBlock=some w.heap.size)->wpList P g Q rest (a.put o.dst c) w'):wpList P g Q (o::rest) a w:=by
 obtain⟨i,hi,m,r,p⟩:=info_parts f;refine wpList_plain k λK A=>?_;obtain⟨c,w',J,I,z,y⟩:=Hd_ (P:=P) (w:=w) b t u o.type e i E D hi m r p v n xs j s hb d;unfold Oper.wp execOp;simp only[C,resolve,invoke,builtin,Sem.run_bind,Sem.run_pure,Result.andThen_ok,List.map_toArray,List.map_cons,List.map_nil,B,G,J];exact A _ _ (h c w' I z y)
def a4_ (s:ByteArray):List UInt8:=beN 4 s.size++s.data.toList
theorem hj_ (s:ByteArray):(a4_ s).length=4+s.size:=by unfold a4_;rw[List.length_append,cl_,a8_]
theorem gy_ (B:Nat) (v:Value) (L:List UInt8) (s:ByteArray) (w:World) (E:L.length+s.size<=50000000) (t:w.ownsRow B 5 1 v L.length (Lib.byteCells L)) (r:B<=w.heap.size) :
    Calls Tryz.prog 268 #[v,.string s] w (jw_ B v L (a4_ s) w):=by
 have k:=q_ (t9_ B v L s.size w (by omega) t r);have m:=q_ (cl_ 4 s.size);have A:IntKind.u64.wrap (s.size:Int)=(s.size:Int):=IntWalk.u64_in _ (by omega);clear t;go_enter Tryz.func268,Tryz.ntmps268
 go_wp2_with fail;refine k.o.mono ?_;rintro e A ⟨D,rfl,b,a⟩;have d:=q_ b;have n:=q_ a;have p:B<=A.heap.size:=Nat.le_trans r a.turn.size;have f:(L++beN 4 s.size).length+s.size<=100000000:=by rw[List.length_append,m.o];omega
 obtain⟨M,x⟩:=a_ (L++beN 4 s.size);rw[x.o]at d f;clear b a;go_wp2_with (at_builtin;refine Dj_ rfl _ _ 197 9 rfl B 5 Tryz.underlying197 (by kernel_rfl) infoByte _ _ _ rfl d.o s rfl f p ?_;intro C w2 h c i;have y:=q_ h;have z:=q_ c;have q:=q_ i;clear h c i)
 go_ret;refine⟨C,rfl,?_,n.o.trans ⟨Turn.of_grown z.o,?_⟩⟩
 ·unfold a4_;rw[<-List.append_assoc,x.o,b0_,List.length_append,a8_];exact y.o
 ·rcases q.o with e | e
  ·exact .inl e
  ·refine .inr λg j=>?_;rw[e]at j;injection j with j;omega
mutual
def dk_:h_->List UInt8
 | .mk k b n t x l=>UInt8.ofNat k.toNat ::
  (if k=1 then [if b=true then 1 else 0] else if k=2 then beN 8 (n % 18446744073709551616).toNat else if k=6 then beN 8 (n % 18446744073709551616).toNat else if k=7 then beN 8 (n % 18446744073709551616).toNat
  else if k=3 then a4_ t else if k=4 then a4_ t else if k=8 then a4_ t else if k=9 then a4_ t else if k=10 then a4_ t++a4_ x else if k=5 then beN 4 l.length++ew_ l else [])
def ew_:List h_->List UInt8
 | []=>[]
 | v::r=>dk_ v++ew_ r
end
theorem ua_ (a b:List h_):ew_ (a++b)=ew_ a++ew_ b:=by
 induction a with
 | nil=>simp[ew_]
 | cons v r c=>simp[ew_,c]
mutual
theorem mr_:∀v:h_,(dk_ v).length<=200*U_ v
 | .mk k b n t x l=>by
  have h:=ih_ l;have h1:=hj_ t;have a:=hj_ x;unfold dk_ U_;rw[List.length_cons];repeat' split
  all_goals (first | (simp only[List.length_append,cl_,List.length_cons,List.length_nil];omega) | omega)
theorem ih_:∀l:List h_,(ew_ l).length<=200*af_ l
 | []=>by simp[ew_]
 | v::r=>by
  have h:=mr_ v;have a:=ih_ r;simp only[ew_,af_,List.length_append];omega
end
theorem on_ {v:h_} {d:Nat} (h:K_ v d=true):0<=v.kind/\v.kind<=10:=by
 cases v with
 | mk k b n t x l=>
 show 0<=k/\k<=10;unfold K_ at h;refine Classical.byContradiction λa=>?_;rw[if_neg (by omega),if_neg (by omega),if_neg (by omega),if_neg (by omega),if_neg (by omega),if_neg (by omega),if_neg (by omega),if_neg (by omega),if_neg (by omega),if_neg (by omega),if_neg (by omega)]at h
 cases h
theorem Dk_ {b:Bool} {n:Int} {t x:ByteArray} {l:List h_} {d:Nat} (h:K_ (.mk 5 b n t x l) d=true):ib_ l (d+1)=true/\l.length<=4096:=by rw[Dc_]at h;simp only[Bool.and_eq_true,decide_eq_true_iff]at h;exact⟨h.2.2.1,h.1⟩
theorem wu_ (l:List h_) {k:Nat} {y:h_} (h:l[k]?=some y):af_ (l.take k)+U_ y<=af_ l:=by have h1:=wp_ l (k+1);rw[f_ h,kg_]at h1;simp only[af_]at h1;omega
theorem m8_ (y:Value) (w:World):(Instr.typeAssert (.iface 233 y) 20 194 true).run Tryz.prog w = .ok (.tuple #[.bool false,.bool false]) w:=by kernel_rfl
theorem p7_ (y:Value) (w:World):(Instr.typeAssert (.iface 233 y) 20 188 true).run Tryz.prog w = .ok (.tuple #[.int .i64 0,.bool false]) w:=by kernel_rfl
theorem p8_ (y:Value) (w:World):(Instr.typeAssert (.iface 233 y) 20 193 true).run Tryz.prog w = .ok (.tuple #[.int .i64 0,.bool false]) w:=by kernel_rfl
theorem oo_ (y:Value) (w:World):(Instr.typeAssert (.iface 233 y) 20 189 true).run Tryz.prog w = .ok (.tuple #[.string ⟨#[]⟩,.bool false]) w:=by kernel_rfl
theorem p9_ (y:Value) (w:World):(Instr.typeAssert (.iface 233 y) 20 234 true).run Tryz.prog w = .ok (.tuple #[.string ⟨#[]⟩,.bool false]) w:=by kernel_rfl
theorem m9_ (y:Value) (w:World):(Instr.typeAssert (.iface 233 y) 20 237 true).run Tryz.prog w = .ok (.tuple #[.agg #[.string ⟨#[]⟩,.string ⟨#[]⟩],.bool false]) w:=by kernel_rfl
theorem sp_ (y:Value) (w:World):(Instr.typeAssert (.iface 233 y) 20 191 true).run Tryz.prog w = .ok (.tuple #[.slice none 0 0,.bool false]) w:=by kernel_rfl
theorem jx_ (y:Value) (w:World):(Instr.typeAssert (.iface 194 y) 20 194 true).run Tryz.prog w = .ok (.tuple #[y,.bool true]) w:=by kernel_rfl
theorem lu_ (y:Value) (w:World):(Instr.typeAssert (.iface 188 y) 20 194 true).run Tryz.prog w = .ok (.tuple #[.bool false,.bool false]) w:=by kernel_rfl
theorem op_ (y:Value) (w:World):(Instr.typeAssert (.iface 188 y) 20 188 true).run Tryz.prog w = .ok (.tuple #[y,.bool true]) w:=by kernel_rfl
theorem gz_ (y:Value) (w:World):(Instr.typeAssert (.iface 193 y) 20 194 true).run Tryz.prog w = .ok (.tuple #[.bool false,.bool false]) w:=by kernel_rfl
theorem ii_ (y:Value) (w:World):(Instr.typeAssert (.iface 193 y) 20 188 true).run Tryz.prog w = .ok (.tuple #[.int .i64 0,.bool false]) w:=by kernel_rfl
theorem ij_ (y:Value) (w:World):(Instr.typeAssert (.iface 193 y) 20 193 true).run Tryz.prog w = .ok (.tuple #[y,.bool true]) w:=by kernel_rfl
theorem kl_ (y:Value) (w:World):(Instr.typeAssert (.iface 189 y) 20 194 true).run Tryz.prog w = .ok (.tuple #[.bool false,.bool false]) w:=by kernel_rfl
theorem na_ (y:Value) (w:World):(Instr.typeAssert (.iface 189 y) 20 188 true).run Tryz.prog w = .ok (.tuple #[.int .i64 0,.bool false]) w:=by kernel_rfl
theorem nb_ (y:Value) (w:World):(Instr.typeAssert (.iface 189 y) 20 193 true).run Tryz.prog w = .ok (.tuple #[.int .i64 0,.bool false]) w:=by kernel_rfl
theorem lv_ (y:Value) (w:World):(Instr.typeAssert (.iface 189 y) 20 189 true).run Tryz.prog w = .ok (.tuple #[y,.bool true]) w:=by kernel_rfl
theorem d4_ (y:Value) (w:World):(Instr.typeAssert (.iface 234 y) 20 194 true).run Tryz.prog w = .ok (.tuple #[.bool false,.bool false]) w:=by kernel_rfl
theorem fo_ (y:Value) (w:World):(Instr.typeAssert (.iface 234 y) 20 188 true).run Tryz.prog w = .ok (.tuple #[.int .i64 0,.bool false]) w:=by kernel_rfl
theorem fp_ (y:Value) (w:World):(Instr.typeAssert (.iface 234 y) 20 193 true).run Tryz.prog w = .ok (.tuple #[.int .i64 0,.bool false]) w:=by kernel_rfl
theorem ex_ (y:Value) (w:World):(Instr.typeAssert (.iface 234 y) 20 189 true).run Tryz.prog w = .ok (.tuple #[.string ⟨#[]⟩,.bool false]) w:=by kernel_rfl
theorem fq_ (y:Value) (w:World):(Instr.typeAssert (.iface 234 y) 20 234 true).run Tryz.prog w = .ok (.tuple #[y,.bool true]) w:=by kernel_rfl
theorem jy_ (y:Value) (w:World):(Instr.typeAssert (.iface 237 y) 20 194 true).run Tryz.prog w = .ok (.tuple #[.bool false,.bool false]) w:=by kernel_rfl
theorem lw_ (y:Value) (w:World):(Instr.typeAssert (.iface 237 y) 20 188 true).run Tryz.prog w = .ok (.tuple #[.int .i64 0,.bool false]) w:=by kernel_rfl
theorem lx_ (y:Value) (w:World):(Instr.typeAssert (.iface 237 y) 20 193 true).run Tryz.prog w = .ok (.tuple #[.int .i64 0,.bool false]) w:=by kernel_rfl
theorem km_ (y:Value) (w:World):(Instr.typeAssert (.iface 237 y) 20 189 true).run Tryz.prog w = .ok (.tuple #[.string ⟨#[]⟩,.bool false]) w:=by kernel_rfl
theorem ly_ (y:Value) (w:World):(Instr.typeAssert (.iface 237 y) 20 234 true).run Tryz.prog w = .ok (.tuple #[.string ⟨#[]⟩,.bool false]) w:=by kernel_rfl
theorem jz_ (y:Value) (w:World):(Instr.typeAssert (.iface 237 y) 20 237 true).run Tryz.prog w = .ok (.tuple #[y,.bool true]) w:=by kernel_rfl
theorem nc_ (y:Value) (w:World):(Instr.typeAssert (.iface 191 y) 20 194 true).run Tryz.prog w = .ok (.tuple #[.bool false,.bool false]) w:=by kernel_rfl
theorem qa_ (y:Value) (w:World):(Instr.typeAssert (.iface 191 y) 20 188 true).run Tryz.prog w = .ok (.tuple #[.int .i64 0,.bool false]) w:=by kernel_rfl
theorem qb_ (y:Value) (w:World):(Instr.typeAssert (.iface 191 y) 20 193 true).run Tryz.prog w = .ok (.tuple #[.int .i64 0,.bool false]) w:=by kernel_rfl
theorem oq_ (y:Value) (w:World):(Instr.typeAssert (.iface 191 y) 20 189 true).run Tryz.prog w = .ok (.tuple #[.string ⟨#[]⟩,.bool false]) w:=by kernel_rfl
theorem qc_ (y:Value) (w:World):(Instr.typeAssert (.iface 191 y) 20 234 true).run Tryz.prog w = .ok (.tuple #[.string ⟨#[]⟩,.bool false]) w:=by kernel_rfl
theorem nd_ (y:Value) (w:World):(Instr.typeAssert (.iface 191 y) 20 237 true).run Tryz.prog w = .ok (.tuple #[.agg #[.string ⟨#[]⟩,.string ⟨#[]⟩],.bool false]) w:=by kernel_rfl
theorem sq_ (y:Value) (w:World):(Instr.typeAssert (.iface 191 y) 20 191 true).run Tryz.prog w = .ok (.tuple #[y,.bool true]) w:=by kernel_rfl
theorem z4_ (b:Bool) (w:World):Calls Tryz.prog 134 #[.bool b] w λe w'=>e = .returned (.int .i64 (if b=true then 1 else 0))/\w'=w:=by
 cases b with
 | true=>
  go_enter Tryz.func134,Tryz.ntmps134
  go_wp2
  go_ret;exact⟨rfl,rfl⟩
 | false=>
  go_enter Tryz.func134,Tryz.ntmps134
  go_wp2
  go_ret;exact⟨rfl,rfl⟩
theorem wv_ (n:Int):IntKind.u64.wrap n=(((n % 18446744073709551616).toNat:Nat):Int):=by have h:=Int.emod_nonneg n (show (18446744073709551616:Int)≠0 by decide);rw[Int.toNat_of_nonneg h];rfl
theorem He_ (N:Nat):∀(v:h_) (_:U_ v<N) (d:Nat) (_:K_ v d=true) (B:Nat) (F:Nat->Prop) (r:Value) (L:List UInt8) (u:Value) (w:World) (_:L.length+200*U_ v<=40000000) (_:∀g,F g->g<B) (_:B<=w.heap.size)
    (_:w.ownsRow B 5 1 r L.length (Lib.byteCells L)) (_:VRd w F v u),Calls Tryz.prog 216 #[r,u] w (jw_ B r L (dk_ v) w):=by
 induction N with
 | zero=>exact λ_ h=>absurd h (Nat.not_lt_zero _)
 | succ N ih=>
  intro v hN d ac B F r L u w hL hF hB ho hv;obtain⟨A,a3,rfl,ap,hl⟩:=hv.inv;have IH:=q_ ih;have HL:=q_ hl;have HF:=q_ hF;have HO:=q_ ho;have c1:=q_ ac;have hk:=on_ ac;clear ih hl hF hv ho ac;obtain⟨s,HS⟩:=a_ (Value.slice A v.list.length a3);have HP:=q_ (λW=>ck_ v s W);rw[HS.o];obtain⟨Z,j⟩:=a_ (dk_ v);rw[j.o]
  cases v with
  | mk k b n t x l=>
  obtain⟨pv,q⟩:=a_ (qx_ (.mk k b n t x l) s);unfold d1_ c_ at HP;unfold c_;rw[q.o]at HP;simp only[h_.kind,h_.truth,h_.num,h_.text,h_.extra,h_.list]at HP HL HS ap hk ⊢;have ar:L.length+200+t.size+x.size<=40000200/\L.length+200+200*af_ l<=40000000/\af_ l<N/\l.length<=af_ l:=by simp only[U_]at hL hN;have:=dd_ l;omega
  obtain⟨ar,c4,cn,ch⟩:=ar;clear hN hL;obtain⟨h,Hh⟩:=a_ w.heap.size;obtain⟨w0,ah⟩:=a_ (w.alloc (.cells #[.int .i64 k,.bool b,.int .i64 n,.string t,.string x,s] 39));have au:=q_ (show Below w.heap.size w w0 from by rw[<-ah.o];exact (Below.refl _ _).alloc (Nat.le_refl _) _);have b5:=q_ (show w0.heap[h]?=some (.cells #[.int .i64 k,.bool b,.int .i64 n,.string t,.string x,s] 39 (0,0)) from by rw[<-ah.o,<-Hh.o];exact heap_alloc_new w _);have cc:=q_ (show h<w0.heap.size from by rw[<-ah.o,<-Hh.o];simp);have bj:=q_ ((Turn.of_below au.o).owns HO.o (λg hg hx=>by have:=(HO.o.lt g hg).2;omega));have ct:B<=h:=by rw[<-Hh.o];exact hB
  have c6:B<=w0.heap.size:=Nat.le_trans hB au.o.size;obtain⟨c,Hc⟩:=a_ (UInt8.ofNat k.toNat);have ce:IntKind.u8.wrap k=(c.toNat:Int):=by rw[IntWalk.u8_in _ (by omega),<-Hc.o,UInt8.toNat_ofNat'];have:k.toNat % 2 ^ 8=k.toNat:=Nat.mod_eq_of_lt (by omega);rw[this];omega
  obtain⟨a4,ae⟩:=a_ L.length;rw[ae.o]at bj HO ar c4;have c0:w0.cell? ⟨h,0,none⟩=some (.int .i64 k):=cell_of_heap b5.o 0;go_enter Tryz.func216,Tryz.ntmps216
  go_upto_region 1 with fail;rw[ah.o,Hh.o];go_wp2_with (at_builtin;refine i0_ rfl _ _ 197 rfl B 5 (.int .u8 0) 1 1 Tryz.underlying197 infoByte rfl (by decide) _ _ _ rfl bj.o c6 #[.int .u8 (c.toNat:Int)] 1 1 rfl rfl (se_ _) (by omega) (by omega) (by decide) ?_;intro g4 af w4 bd bc bn;have ay:=q_ bd;have aw:=q_ bc;have ba:=q_ bn;have a8:=q_ ((aw.o.block h cc.o (λe=>by have:=(HO.o.lt h e.symm).2;have:=Hh.o;omega)).trans b5.o);have d0:w4.cell? ⟨h,0,none⟩=some (.int .i64 k):=cell_of_heap a8.o 0;have d1:w4.cell? ⟨h,1,none⟩=some (.bool b):=cell_of_heap a8.o 1;have d2:w4.cell? ⟨h,2,none⟩=some (.int .i64 n):=cell_of_heap a8.o 2;have d3:w4.cell? ⟨h,3,none⟩=some (.string t):=cell_of_heap a8.o 3;have d4:w4.cell? ⟨h,4,none⟩=some (.string x):=cell_of_heap a8.o 4;have d5:w4.cell? ⟨h,5,none⟩=some s:=cell_of_heap a8.o 5;clear bd bc bn)
  refine (HP.o _).mono ?_;rintro e w5 ⟨rfl,b4⟩
  have ao:=q_ (show c3_ r (.slice (some ⟨g4,0,none⟩) (a4+1) af) w w5 from by
   have h1:c3_ r r w w0:=c3_.below au.o
   have h2:c3_ r (.slice (some ⟨g4,0,none⟩) (a4+1) af) w0 w4:=⟨Turn.of_grown aw.o,by
    rcases ba.o with e | e
    ·exact .inl e.symm
    ·exact .inr (λg hg=>by injection hg with hg;rw[<-hg];exact e)⟩
   exact (h1.trans h2).trans (c3_.below b4))
  have T:=q_ (show w5.ownsRow B 5 1 (.slice (some ⟨g4,0,none⟩) (a4+1) af) (L++[c]).length (Lib.byteCells (L++[c])) from by rw[b0_,List.length_append,ae.o];exact (Turn.of_below b4).owns ay.o (λg hg hx=>by have:=(ay.o.lt g hg).2;omega));have V:B<=w5.heap.size:=Nat.le_trans hB ao.o.turn.size;have bo:=q_ (HL.o.keep (w':=w5) (λp hp=>World.cell?_of_block (ao.o.turn.block p.block (by have:=HF.o _ hp;omega) (λe=>by have:=(HO.o.lt p.block e.symm).1;have:=HF.o _ hp;omega))));have b2:(L++[c]).length=a4+1:=by rw[List.length_append,ae.o];rfl
  obtain⟨Y,av⟩:=a_ (L++[c]);obtain⟨r5,aq⟩:=a_ (Value.slice (some ⟨g4,0,none⟩) (a4+1) af);rw[av.o,aq.o]at T;rw[av.o]at b2;have cm:Y.length<=a4+1:=Nat.le_of_eq b2;clear b2;rw[aq.o]at ao;rw[aq.o];have bz:=q_ (λ(M:List UInt8) (hM:Z=c::M)=>show L++Z=Y++M from by rw[hM,<-av.o];simp);have S:=q_ (λ(M:List UInt8) (hM:Z=c::M) (e:Ending) (w6:World) (h6:jw_ B r5 Y M w5 e w6)=>show jw_ B r L Z w e w6 from by obtain⟨v',he,ho,hg⟩:=h6;exact⟨v',he,by rw[bz.o M hM];exact ho,ao.o.trans hg⟩);clear b4 d0 d1 d2 d3 d4 d5 ay aw ba a8 c0 ce HP;by_cases h0:k=0
  ·subst h0;have G:pv = .iface 233 (.agg #[]):=by rw[<-q.o];rfl
   subst G;have f:=q_ (show Z=c::([]) from by rw[<-j.o,<-Hc.o];unfold dk_;rfl);have a:=m8_ (.agg #[]);have E:=p7_ (.agg #[]);have J:=p8_ (.agg #[]);have O:=oo_ (.agg #[]);have U:=p9_ (.agg #[]);have a5:=m9_ (.agg #[]);have b6:=sp_ (.agg #[]);clear q j;go_wp2_with fail;go_ret;exact S.o [] f.o _ _ ⟨r5,rfl,by rw[List.append_nil];exact T.o,c3_.refl _ _⟩
  ·have e0:((k:Int)==0)=false:=beq_eq_false_iff_ne.2 h0;by_cases h1:k=1
   ·subst h1;have G:pv = .iface 194 (.bool b):=by rw[<-q.o];rfl
    subst G;have f:=q_ (show Z=c::([if b=true then 1 else 0]) from by rw[<-j.o,<-Hc.o];unfold dk_;rfl)
    have a:=jx_ (.bool b);clear q j;have ht:=q_ (z4_ b w5);obtain⟨z,Hz⟩:=a_ (if b=true then (1:Int) else 0)
    obtain⟨zc,bb⟩:=a_ (if b=true then (1:UInt8) else 0)
    rw[Hz.o]at ht;rw[bb.o]at f;have cx:IntKind.u8.wrap z=(zc.toNat:Int):=by rw[<-Hz.o,<-bb.o];cases b<;>rfl
    go_wp2_with fail;refine ht.o.mono ?_;rintro e w6 ⟨rfl,rfl⟩
    go_wp2_with (at_builtin;refine i0_ rfl _ _ 197 rfl B 5 (.int .u8 0) 1 1 Tryz.underlying197 infoByte rfl (by decide) _ _ _ rfl T.o V #[.int .u8 (zc.toNat:Int)] 1 1 rfl rfl (se_ _) (by omega) (by omega) (by decide) ?_;intro g7 cu w7 a2 a1 bg;have a7:=q_ a2;have a9:=q_ a1;have c3:=q_ bg;clear a2 a1 bg)
    go_ret
    exact S.o _ f.o _ _ ⟨_,rfl,by rw[b0_,List.length_append];exact a7.o,⟨Turn.of_grown a9.o,by
     rcases c3.o with e | e
     ·exact .inl e.symm
     ·exact .inr (λg hg=>by injection hg with hg;rw[<-hg];exact e)⟩⟩
   ·have e1:((k:Int)==1)=false:=beq_eq_false_iff_ne.2 h1;by_cases h2:k=2
    ·subst h2;have G:pv = .iface 188 (.int .i64 n):=by rw[<-q.o];rfl
     subst G;have f:=q_ (show Z=c::(beN 8 (n % 18446744073709551616).toNat) from by rw[<-j.o,<-Hc.o];unfold dk_;rfl);have a:=lu_ (.int .i64 n);have E:=op_ (.int .i64 n);clear q j;obtain⟨m,Hm⟩:=a_ (n % 18446744073709551616).toNat;rw[Hm.o]at f;have hu:IntKind.u64.wrap n=(m:Int):=by rw[wv_,Hm.o]
     have R:=q_ (om_ B r5 Y m w5 (by omega) T.o V);go_wp2_with fail;refine R.o.mono ?_;rintro e w6 ⟨v6,rfl,D,C⟩;have I:=q_ D;have P:=q_ C;clear D C;go_wp2_with fail;go_ret;exact S.o _ f.o _ _ ⟨v6,rfl,I.o,P.o⟩
    ·have e2:((k:Int)==2)=false:=beq_eq_false_iff_ne.2 h2;by_cases h6:k=6
     ·subst h6;have G:pv = .iface 193 (.int .i64 n):=by rw[<-q.o];rfl
      subst G;have f:=q_ (show Z=c::(beN 8 (n % 18446744073709551616).toNat) from by rw[<-j.o,<-Hc.o];unfold dk_;rfl);have a:=gz_ (.int .i64 n);have E:=ii_ (.int .i64 n);have J:=ij_ (.int .i64 n);clear q j;obtain⟨m,Hm⟩:=a_ (n % 18446744073709551616).toNat;rw[Hm.o]at f;have hu:IntKind.u64.wrap n=(m:Int):=by rw[wv_,Hm.o]
      have R:=q_ (om_ B r5 Y m w5 (by omega) T.o V);go_wp2_with fail;refine R.o.mono ?_;rintro e w6 ⟨v6,rfl,D,C⟩;have I:=q_ D;have P:=q_ C;clear D C;go_wp2_with fail;go_ret;exact S.o _ f.o _ _ ⟨v6,rfl,I.o,P.o⟩
     ·have e6:((k:Int)==6)=false:=beq_eq_false_iff_ne.2 h6;by_cases h7:k=7
      ·subst h7;have G:pv = .iface 193 (.int .i64 n):=by rw[<-q.o];rfl
       subst G;have f:=q_ (show Z=c::(beN 8 (n % 18446744073709551616).toNat) from by rw[<-j.o,<-Hc.o];unfold dk_;rfl);have a:=gz_ (.int .i64 n);have E:=ii_ (.int .i64 n);have J:=ij_ (.int .i64 n);clear q j;obtain⟨m,Hm⟩:=a_ (n % 18446744073709551616).toNat;rw[Hm.o]at f;have hu:IntKind.u64.wrap n=(m:Int):=by rw[wv_,Hm.o]
       have R:=q_ (om_ B r5 Y m w5 (by omega) T.o V);go_wp2_with fail;refine R.o.mono ?_;rintro e w6 ⟨v6,rfl,D,C⟩;have I:=q_ D;have P:=q_ C;clear D C;go_wp2_with fail;go_ret;exact S.o _ f.o _ _ ⟨v6,rfl,I.o,P.o⟩
      ·have e7:((k:Int)==7)=false:=beq_eq_false_iff_ne.2 h7;by_cases h3:k=3
       ·subst h3;have G:pv = .iface 189 (.string t):=by rw[<-q.o];rfl
        subst G;have f:=q_ (show Z=c::(a4_ t) from by rw[<-j.o,<-Hc.o];unfold dk_;rfl);have a:=kl_ (.string t);have E:=na_ (.string t);have J:=nb_ (.string t);have O:=lv_ (.string t);clear q j;have R:=q_ (gy_ B r5 Y t w5 (by omega) T.o V);go_wp2_with fail;refine R.o.mono ?_;rintro e w6 ⟨v6,rfl,D,C⟩;have I:=q_ D;have P:=q_ C;clear D C;go_wp2_with fail;go_ret;exact S.o _ f.o _ _ ⟨v6,rfl,I.o,P.o⟩
       ·have e3:((k:Int)==3)=false:=beq_eq_false_iff_ne.2 h3;by_cases h4:k=4
        ·subst h4;have G:pv = .iface 234 (.string t):=by rw[<-q.o];rfl
         subst G;have f:=q_ (show Z=c::(a4_ t) from by rw[<-j.o,<-Hc.o];unfold dk_;rfl);have a:=d4_ (.string t);have E:=fo_ (.string t);have J:=fp_ (.string t);have O:=ex_ (.string t);have U:=fq_ (.string t);clear q j;have R:=q_ (gy_ B r5 Y t w5 (by omega) T.o V);go_wp2_with fail;refine R.o.mono ?_;rintro e w6 ⟨v6,rfl,D,C⟩;have I:=q_ D;have P:=q_ C;clear D C;go_wp2_with fail;go_ret;exact S.o _ f.o _ _ ⟨v6,rfl,I.o,P.o⟩
        ·have e4:((k:Int)==4)=false:=beq_eq_false_iff_ne.2 h4;by_cases h8:k=8
         ·subst h8;have G:pv = .iface 234 (.string t):=by rw[<-q.o];rfl
          subst G;have f:=q_ (show Z=c::(a4_ t) from by rw[<-j.o,<-Hc.o];unfold dk_;rfl);have a:=d4_ (.string t);have E:=fo_ (.string t);have J:=fp_ (.string t);have O:=ex_ (.string t);have U:=fq_ (.string t);clear q j;have R:=q_ (gy_ B r5 Y t w5 (by omega) T.o V);go_wp2_with fail;refine R.o.mono ?_;rintro e w6 ⟨v6,rfl,D,C⟩;have I:=q_ D;have P:=q_ C;clear D C;go_wp2_with fail;go_ret;exact S.o _ f.o _ _ ⟨v6,rfl,I.o,P.o⟩
         ·have e8:((k:Int)==8)=false:=beq_eq_false_iff_ne.2 h8;by_cases h9:k=9
          ·subst h9;have G:pv = .iface 234 (.string t):=by rw[<-q.o];rfl
           subst G;have f:=q_ (show Z=c::(a4_ t) from by rw[<-j.o,<-Hc.o];unfold dk_;rfl);have a:=d4_ (.string t);have E:=fo_ (.string t);have J:=fp_ (.string t);have O:=ex_ (.string t);have U:=fq_ (.string t);clear q j;have R:=q_ (gy_ B r5 Y t w5 (by omega) T.o V);go_wp2_with fail;refine R.o.mono ?_;rintro e w6 ⟨v6,rfl,D,C⟩;have I:=q_ D;have P:=q_ C;clear D C;go_wp2_with fail;go_ret;exact S.o _ f.o _ _ ⟨v6,rfl,I.o,P.o⟩
          ·have e9:((k:Int)==9)=false:=beq_eq_false_iff_ne.2 h9;by_cases bf:k=10
           ·subst bf;have G:pv = .iface 237 (.agg #[.string t,.string x]):=by rw[<-q.o];rfl
            subst G;have f:=q_ (show Z=c::(a4_ t++a4_ x) from by rw[<-j.o,<-Hc.o];unfold dk_;rfl);have a:=jy_ (.agg #[.string t,.string x]);have E:=lw_ (.agg #[.string t,.string x]);have J:=lx_ (.agg #[.string t,.string x]);have O:=km_ (.agg #[.string t,.string x]);have U:=ly_ (.agg #[.string t,.string x]);have a5:=jz_ (.agg #[.string t,.string x]);clear q j;go_upto_region 20 with fail;obtain⟨w6,az⟩:=a_ (w5.alloc (.cells #[.string t,.string x] 237));obtain⟨g,Hg⟩:=a_ w5.heap.size;have ak:=q_ (show Below w5.heap.size w5 w6.drew from by rw[<-az.o];exact gc_ ((Below.refl _ _).alloc (Nat.le_refl _) _) 1);have a6:=q_ (show w6.drew.heap[g]?=some (.cells #[.string t,.string x] 237 (0,0)) from by rw[<-az.o,<-Hg.o];exact heap_alloc_new w5 _);have I:=q_ ((Turn.of_below ak.o).owns T.o (λz hz hx=>by have:=(T.o.lt z hz).2;omega));rw[az.o,Hg.o];have p1:w6.drew.cell? ⟨g,0,none⟩=some (.string t)/\w6.drew.cell? ⟨g,1,none⟩=some (.string x):=⟨cell_of_heap a6.o 0,cell_of_heap a6.o 1⟩;have cb:=q_ (gy_ B r5 Y t w6.drew (by omega) I.o (Nat.le_trans V ak.o.size));have bw:=hj_ t;obtain⟨L2,b0⟩:=a_ (Y++a4_ t);have cr:L2.length<=a4+5+t.size:=by rw[<-b0.o,List.length_append];omega
            clear bw;go_cut [4] (λs4 wx=>Q_ (jw_ B r5 Y (a4_ t++a4_ x) w5 (.returned s4) wx))
            case first=>
             go_region_held3 (λW'=>W'.cell? ⟨g,0,none⟩=some (.string t)/\W'.cell? ⟨g,1,none⟩=some (.string x)) (first | exact p1 | exact p2 | exact p3 | (trace_state;fail))
              (first | (go_at_call 268;(with_reducible refine cb.o.mono ?_);rintro e w7 ⟨v7,rfl,a2,a1⟩;have a7:=q_ a2;have a9:=q_ a1;have a0:=q_ ((a9.o.keeps (Array.getElem?_eq_some_iff.1 a6.o).1 (dj_ I.o a6.o (by decide))).trans a6.o);have p2:w7.cell? ⟨g,0,none⟩=some (.string t)/\w7.cell? ⟨g,1,none⟩=some (.string x):=⟨cell_of_heap a0.o 0,cell_of_heap a0.o 1⟩;have ca:B<=w7.heap.size:=Nat.le_trans (Nat.le_trans V ak.o.size) a1.turn.size;rw[b0.o]at a7;clear a2 a1) | (go_at_call 268;(with_reducible refine (gy_ B v7 L2 x w7 (by omega) a7.o ca).mono ?_);rintro e w8 ⟨v8,rfl,bl,b8⟩;have cg:=q_ bl;have br:=q_ b8;have ai:=q_ ((br.o.keeps (Array.getElem?_eq_some_iff.1 a0.o).1 (dj_ a7.o a0.o (by decide))).trans a0.o);have p3:w8.cell? ⟨g,0,none⟩=some (.string t)/\w8.cell? ⟨g,1,none⟩=some (.string x):=⟨cell_of_heap ai.o 0,cell_of_heap ai.o 1⟩;clear bl b8))
             go_wp2_with fail;go_meet;exact q_ ⟨v8,rfl,by rw[<-List.append_assoc,b0.o];exact cg.o,(c3_.below ak.o).trans (a9.o.trans br.o)⟩
            case rest=>
             have HC:=q_ hcut.o;go_wp2_with fail;go_ret;exact S.o _ f.o _ _ HC.o
           ·have cv:((k:Int)==10)=false:=beq_eq_false_iff_ne.2 bf;by_cases h5:k=5
            ·subst h5;have G:pv = .iface 191 (s):=by rw[<-q.o];rfl
             subst G;have f:=q_ (show Z=c::(beN 4 l.length++ew_ l) from by rw[<-j.o,<-Hc.o];unfold dk_;rfl);obtain⟨bk,c2⟩:=Dk_ c1.o;have c7:=q_ bk;clear bk;have ci:=HS.o;subst ci;obtain⟨X,b3⟩:=a_ l.length;rw[b3.o]at c2 f bo ch ap ⊢;have a:=nc_ (.slice A X a3);have E:=qa_ (.slice A X a3);have J:=qb_ (.slice A X a3);have O:=oq_ (.slice A X a3);have U:=qc_ (.slice A X a3);have a5:=nd_ (.slice A X a3);have b6:=sq_ (.slice A X a3);clear q j;have R:=q_ (t9_ B r5 Y X w5 (by omega) T.o V);have hu:IntKind.u64.wrap (X:Int)=(X:Int):=IntWalk.u64_in _ (by omega);go_wp2_with fail;refine R.o.mono ?_;rintro e w6 ⟨v6,rfl,D,C⟩;have I:=q_ D;have P:=q_ C;clear D C;go_wp2_with fail;have bp:=q_ (P.o.turn.size);have c9:(Y++beN 4 X).length<=a4+5:=by rw[List.length_append,cl_];omega
             obtain⟨L6,bs⟩:=a_ (Y++beN 4 X);rw[bs.o]at I c9;have cp:B<=w6.heap.size:=Nat.le_trans V bp.o;have bu:=q_ (bo.o.keep (w':=w6) (λp hp=>World.cell?_of_block (P.o.turn.block p.block (by have:=HF.o _ hp;omega) (λe=>by have:=(T.o.lt p.block e.symm).1;have:=HF.o _ hp;omega))));go_loopw [0,77] (λs0 b1 wr=>∃i:Nat,i<=X/\b1 = .int .i64 (i:Nat)/\Q_ (wr.ownsRow B 5 1 s0 (L6++ew_ (l.take i)).length (Lib.byteCells (L6++ew_ (l.take i))))/\Q_ (c3_ v6 s0 w6 wr)) (λ_ b1 _=>X-(intOf b1).toNat)
             case atStart=>exact⟨0,by omega,rfl,q_ (by rw[List.take_zero];unfold ew_;rw[List.append_nil];exact I.o),q_ (c3_.refl _ _)⟩
             case round=>
              obtain⟨i,hi,rfl,ag,am⟩:=hrel;have bt:w6.heap.size<=wr.heap.size:=am.o.turn.size;have cf:B<=wr.heap.size:=Nat.le_trans (Nat.le_trans V bp.o) bt;by_cases cd:i<X
              ·obtain⟨y,hy⟩:∃y,l[i]?=some y:=⟨l[i]'(by rw[b3.o];exact cd),List.getElem?_eq_getElem _⟩;have HR:=q_ (bu.o.keep (w':=wr) (λp hp=>World.cell?_of_block (am.o.turn.block p.block (by have:=HF.o _ hp;omega) (λe=>by have:=(I.o.lt p.block e.symm).1;have:=HF.o _ hp;omega))));obtain⟨ad,sy,rfl,ck,⟨Ay,cy,rfl,cl,cj⟩,bm,e0,e1,e2,e3,e4,e5⟩:=HR.o.cellsAt hy;have ab:=List.mem_of_getElem? hy;have bi:K_ y (d+1)=true:=by have:=c7.o;rw[oc_,List.all_eq_true]at this;exact this y ab
               have bx:=fc_ ab;have c8:=wu_ l hy;have c5:=ih_ (l.take i);have aa:(L6++ew_ (l.take i)).length+200*U_ y<=40000000:=by rw[List.length_append];omega
               obtain⟨Lc,bq⟩:=a_ (L6++ew_ (l.take i));rw[bq.o]at ag aa;have b7:=q_ (show L6++ew_ (l.take (i+1))=Lc++dk_ y from by rw[f_ hy,ua_,<-bq.o,List.append_assoc];simp[ew_]);obtain⟨W,HW⟩:=a_ (wr.alloc (.cells #[.int .i64 y.kind,.bool y.truth,.int .i64 y.num,.string y.text,.string y.extra,.slice Ay y.list.length cy] 39));have aj:=q_ (show Below wr.heap.size wr W from by rw[<-HW.o];exact (Below.refl _ _).alloc (Nat.le_refl _) _);have bh:=q_ (IH.o y (by omega) (d+1) bi B F u0 Lc _ W aa HF.o (Nat.le_trans cf aj.o.size) ((Turn.of_below aj.o).owns ag.o (λz hz hx=>by have:=(ag.o.lt z hz).2;omega)) (bm.under aj.o (λg hg=>by have:=HF.o g hg;omega)));unfold c_ at bh;have q1:(0:Int)<=i:=by omega
               have q2:(i:Int)<X:=by omega
               have w1:IntKind.i64.wrap ((i:Int)+1)=(i:Int)+1:=IntWalk.i64_in _ (by omega);have co:W.cell? ⟨wr.heap.size,0,none⟩=some (.int .i64 y.kind):=by rw[<-HW.o];exact cell_of_heap (heap_alloc_new wr _) 0
               have d6:W.cell? ⟨wr.heap.size,1,none⟩=some (.bool y.truth):=by rw[<-HW.o];exact cell_of_heap (heap_alloc_new wr _) 1
               have cq:W.cell? ⟨wr.heap.size,2,none⟩=some (.int .i64 y.num):=by rw[<-HW.o];exact cell_of_heap (heap_alloc_new wr _) 2
               have cw:W.cell? ⟨wr.heap.size,3,none⟩=some (.string y.text):=by rw[<-HW.o];exact cell_of_heap (heap_alloc_new wr _) 3
               have cs:W.cell? ⟨wr.heap.size,4,none⟩=some (.string y.extra):=by rw[<-HW.o];exact cell_of_heap (heap_alloc_new wr _) 4
               have cz:W.cell? ⟨wr.heap.size,5,none⟩=some (.slice Ay y.list.length cy):=by rw[<-HW.o];exact cell_of_heap (heap_alloc_new wr _) 5
               clear hy ab bi bx c8 c5 aa cj bm ck;go_upto_region 27 with fail;rw[HW.o];go_wp2_with fail;refine bh.o.mono ?_;rintro e w7 ⟨v7,rfl,a2,a1⟩;have a7:=q_ a2;have a9:=q_ ((am.o.trans (c3_.below aj.o)).trans a1);clear a2 a1;go_wp2_with fail;go_roundw
               case rel=>exact⟨i+1,by omega,by go_num,q_ (by rw[b7.o];exact a7.o),a9⟩
               case measure=>simp[intOf];omega
              ·have b9:i=X:=by omega
               have HE:=q_ (show Y++(beN 4 X++ew_ l)=L6++ew_ (l.take i) from by rw[List.take_of_length_le (by rw[b9,b3.o];exact Nat.le_refl _),<-List.append_assoc,bs.o]);clear b9;go_wp2_with fail;go_ret;exact S.o _ (by rw[f.o]) _ _ ⟨_,rfl,by rw[HE.o];exact ag.o,P.o.trans am.o⟩
            ·omega
def Dl_ (v:h_) (w:World) (e:Ending) (w':World):Prop:=Below w.heap.size w w' /\
 if K_ v 0=true then ∃r,e = .returned (.tuple #[r,.int .i64 0])/\w'.ownsRow w.heap.size 5 1 r (dk_ v).length (Lib.byteCells (dk_ v)) else e = .returned (.tuple #[.slice none 0 0,.int .i64 1])
theorem ww_ (v:h_) (hs:U_ v<=200000) (F:Nat->Prop) (u:Value) (w:World) (S:∀g,F g->g<w.heap.size) (J:VRd w F v u) (y:M_ w) :
    Calls Tryz.prog 136 #[u] w (Dl_ v w):=by
 obtain⟨A,R,hu,G,X⟩:=J.inv;have z:=q_ S;have N:=q_ J;have Y:=q_ y;have f:=q_ (λ(W:World) (hb:Below w.heap.size w W)=>d3_ v (by omega) F u W (λg y=>Nat.lt_of_lt_of_le (z.o g y) hb.size) (N.o.under hb z.o) (g_ Y.o hb));have j:=q_ (λ(W:World) (hb:Below w.heap.size w W) (Z:K_ v 0=true)=>He_ (U_ v+1) v (by omega) 0 Z w.heap.size F (.slice none 0 0) [] u W (by simp;omega) z.o hb.size (World.ownsRow_nil _ _ _ _) (N.o.under hb z.o));subst hu;obtain⟨s,HS⟩:=a_ (Value.slice A v.list.length R);obtain⟨mv,E⟩:=a_ (K_ v 0);unfold Dl_;rw[E.o]at f j;rw[E.o];rw[HS.o]at f j ⊢;clear X G y J S
 cases v with
 | mk k b n t x l=>
 unfold c_ at f j ⊢;simp only[h_.kind,h_.truth,h_.num,h_.text,h_.extra]at f j ⊢;obtain⟨h,I⟩:=a_ w.heap.size;obtain⟨d,q⟩:=a_ (w.alloc (.cells #[.int .i64 k,.bool b,.int .i64 n,.string t,.string x,s] 39));have r:=q_ (show Below w.heap.size w d from by rw[<-q.o];exact (Below.refl _ _).alloc (Nat.le_refl _) _);have c:=q_ (show d.heap[h]?=some (.cells #[.int .i64 k,.bool b,.int .i64 n,.string t,.string x,s] 39 (0,0)) from by rw[<-q.o,<-I.o];exact heap_alloc_new w _);have T:=q_ (show h<d.heap.size from by rw[<-q.o,<-I.o];simp);have q0:d.cell? ⟨h,0,none⟩=some (.int .i64 k):=cell_of_heap c.o 0;have q1:d.cell? ⟨h,1,none⟩=some (.bool b):=cell_of_heap c.o 1;have U:d.cell? ⟨h,2,none⟩=some (.int .i64 n):=cell_of_heap c.o 2;have q3:d.cell? ⟨h,3,none⟩=some (.string t):=cell_of_heap c.o 3;have q4:d.cell? ⟨h,4,none⟩=some (.string x):=cell_of_heap c.o 4;have V:d.cell? ⟨h,5,none⟩=some s:=cell_of_heap c.o 5;go_enter Tryz.func136,Tryz.ntmps136
 go_upto_region 1 with fail;rw[q.o,I.o];go_wp2_with fail;refine (f.o _ r.o).mono ?_;rintro e m ⟨rfl,hb⟩;have p:=q_ (r.o.trans (hb.mono r.o.size));have a:=q_ ((hb.block h T.o).trans c.o);clear hb q0 q1 U q3 q4 V;have c0:m.cell? ⟨h,0,none⟩=some (.int .i64 k):=cell_of_heap a.o 0;have c1:m.cell? ⟨h,1,none⟩=some (.bool b):=cell_of_heap a.o 1;have c2:m.cell? ⟨h,2,none⟩=some (.int .i64 n):=cell_of_heap a.o 2;have c3:m.cell? ⟨h,3,none⟩=some (.string t):=cell_of_heap a.o 3;have c4:m.cell? ⟨h,4,none⟩=some (.string x):=cell_of_heap a.o 4;have c5:m.cell? ⟨h,5,none⟩=some s:=cell_of_heap a.o 5
 cases mv with
 | false=>
  go_wp2_with fail;exact bodyPost_ret (v:=.tuple #[.slice none 0 0,.int .i64 1]) (by simp[results,Tryz.results136,go_sem]) rfl ⟨p.o,rfl⟩
 | true=>
  have O:=q_ (j.o m p.o rfl);go_wp2_with fail;refine O.o.mono ?_;rintro e w2 ⟨M,rfl,D,C⟩;have P:=q_ D;have L:=q_ (C.turn.below (B:=w.heap.size) (λi _ hi=>by cases hi) p.o.size);clear D C;go_wp2_with fail;exact bodyPost_ret (v:=.tuple #[M,.int .i64 0]) (by simp[results,Tryz.results136,go_sem]) rfl ⟨p.o.trans L.o,M,rfl,P.o⟩
def BRd (w:World) (G:Nat) (s:Value) (R:List UInt8):Prop:=
 ∃ad a,s = .slice (some ad) R.length a/\R.length<=a/\ad.block=G/\∀i c,R[i]?=some c->w.cell? (ad.add i)=some (.int .u8 (c.toNat:Int))
theorem BRd.keep {w w':World} {G:Nat} {s:Value} {R:List UInt8} (h:BRd w G s R) (f:w'.heap[G]?=w.heap[G]?):BRd w' G s R:=by obtain⟨ad,a,e,d,hb,b⟩:=h;exact⟨ad,a,e,d,hb,λi c hi=>(World.cell?_of_block (by rw[block_of_add,hb];exact f)).trans (b i c hi)⟩
def Dm_ (l:List UInt8):Nat:=l.foldl (λa c=>a*256+c.toNat) 0
theorem z5_ (l:List UInt8) (c:UInt8):Dm_ (l++[c])=Dm_ l*256+c.toNat:=by unfold Dm_;rw[List.foldl_append];rfl
theorem Dn_ (W m:Nat):beN (W+1) m=beN W (m / 256)++[UInt8.ofNat (m % 256)]:=by
 unfold beN;rw[List.range_succ,List.map_append];congr 1
 ·refine List.map_congr_left λj a=>?_;have a:j<W:=List.mem_range.1 a;have h1:m / 2 ^ (8*(W+1-1-j))=m / 256 / 2 ^ (8*(W-1-j)):=by rw[Nat.div_div_eq_div_mul,show 8*(W+1-1-j)=8+8*(W-1-j) by omega,Nat.pow_add]
  rw[h1]
 ·simp
theorem y0_ (W:Nat):∀m,m<256 ^ W->Dm_ (beN W m)=m:=by
 induction W with
 | zero=>intro m h;simp at h;subst h;rfl
 | succ W a=>
  intro m h;rw[Dn_,z5_,a _ (by rw[Nat.pow_succ]at h;omega),UInt8.toNat_ofNat'];have:m % 256 % 2 ^ 8=m % 256:=Nat.mod_eq_of_lt (Nat.mod_lt _ (by decide));rw[this];omega
end
end Go.Proofs.YtefhfadjajcmkaaGreatDoor
