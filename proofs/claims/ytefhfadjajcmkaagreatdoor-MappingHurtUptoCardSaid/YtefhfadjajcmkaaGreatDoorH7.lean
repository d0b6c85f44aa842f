/- Triples: Check, partsOf; Contains: printed by gen_XC.py. -/
import Derived.Test.YtefhfadjajcmkaaGreatDoorH6
set_option linter.unusedVariables false
set_option linter.unusedSimpArgs false
set_option maxRecDepth 100000
set_option maxHeartbeats 64000000
namespace Go.Proofs.YtefhfadjajcmkaaGreatDoor
open Go.Lib (cell_of_heap)
section
open Go
structure l8_ (w:Way) (T:List d_) (ix:List Nat):Prop where
 perm:ix.Perm (List.range T.length)
 rise:ix.Pairwise λa b=>∀s t,T[a]?=some s->T[b]?=some t->A_ w s t<0
theorem l8_.lt {w:Way} {T:List d_} {a:List Nat} (h:l8_ w T a) {n:Nat} (b:n∈a):n<T.length:=List.mem_range.1 (h.perm.mem_iff.1 b)
theorem l8_.len {w:Way} {T:List d_} {a:List Nat} (h:l8_ w T a):a.length=T.length:=by rw[h.perm.length_eq,List.length_range]
theorem l8_.nodup {w:Way} {T:List d_} {a:List Nat} (h:l8_ w T a):a.Nodup:=h.perm.nodup_iff.2 List.nodup_range
theorem Li_ {w:Way} (o:w.Ok) {T:List d_} (j:∀t,t∈T->ce_ t) (l:T.Nodup) {f:List Nat} (m:f.Perm (List.range T.length)) (e:f.Pairwise λa b=>∀s t,T[a]?=some s->T[b]?=some t->¬A_ w t s<0):l8_ w T f:=by
 refine⟨m,?_⟩;have p:f.Nodup:=m.nodup_iff.2 List.nodup_range;refine (e.and p).imp fun {a b} h s t e g=>?_;have h1:=h.1 s t e g;have q:=(be_ w).anti s t;rcases (be_ w).val s t with i | i | i
 ·omega
 ·have:=io_ o (j s (List.mem_of_getElem? e)) (j t (List.mem_of_getElem? g)) i;subst this;obtain⟨la,n⟩:=List.getElem?_eq_some_iff.1 e;obtain⟨lb,k⟩:=List.getElem?_eq_some_iff.1 g;exfalso;rcases Nat.lt_or_gt_of_ne h.2 with d | d
  ·exact List.pairwise_iff_getElem.1 l a b la lb d (n.trans k.symm)
  ·exact List.pairwise_iff_getElem.1 l b a lb la d (k.trans n.symm)
 ·omega
open Classical in
noncomputable def y7_ (p t:d_):Bool:=
 decide (∀i,i<3->(((p.get i).kind≠0->t.get i=p.get i)/\((p.get i).kind=0->∀k,k<i->(p.get k).kind=0->(p.get i).text≠⟨#[]⟩->(p.get k).text=(p.get i).text->t.get i=t.get k)))
open Classical in
theorem An_ {p t:d_}:y7_ p t=true↔∀i,i<3->(((p.get i).kind≠0->t.get i=p.get i)/\((p.get i).kind=0->∀k,k<i->(p.get k).kind=0->(p.get i).text≠⟨#[]⟩->(p.get k).text=(p.get i).text->t.get i=t.get k)):=by unfold y7_;exact⟨λh=>@of_decide_eq_true _ _ h,λh=>@decide_eq_true _ _ h⟩
theorem Ao_ {p t:d_} (h:y7_ p t=true) (i:Nat) (hi:i<3) (a:(p.get i).kind≠0):G_ (t.get i) (p.get i)=0:=by have:=(An_.1 h i hi).1 a;rw[this];exact df_ _
structure ky_ (w:Way) (T:List d_) (p:d_) (d:Nat) (l:List Nat):Prop where
 lt:∀n,n∈l->n<T.length
 rise:l.Pairwise λa b=>∀s t,T[a]?=some s->T[b]?=some t->A_ w s t<0
 nodup:l.Nodup
 same:∀n t,n∈l->T[n]?=some t->∀e,e<d->G_ (t.get (w.get e)) (p.get (w.get e))=0
 bound:∀e,e<d->(p.get (w.get e)).kind≠0
 all:∀n t,T[n]?=some t->y7_ p t=true->n∈l
theorem ky_.start {w:Way} {T:List d_} {d:List Nat} (h:l8_ w T d) (p:d_):ky_ w T p 0 d:=
 ⟨λ_ b=>h.lt b,h.rise,h.nodup,λ_ _ _ _ e a=>absurd a (by omega),λe a=>absurd a (by omega),λn t b _=>h.perm.mem_iff.2 (List.mem_range.2 (List.getElem?_eq_some_iff.1 b).1)⟩
theorem Way.Ok.lt {w:Way} (h:w.Ok) (e:Nat):w.get e<3:=by
 unfold Way.Ok at h;unfold Way.get;repeat' split
 all_goals omega
theorem ky_.mono {w:Way} {T:List d_} {p:d_} {d:Nat} {l:List Nat} (h:ky_ w T p d l) (G:d<3) (c:Nat->Int) (E:∀n t,T[n]?=some t->c n=G_ (t.get (w.get d)) (p.get (w.get d))):l.Pairwise λa b=>c a<=c b:=by
 have u:=h.rise.and (List.pairwise_iff_forall_sublist.2 fun {a b} m=>(⟨m.subset (by simp),m.subset (by simp)⟩:a∈l/\b∈l));refine u.imp fun {a b} m=>?_;obtain⟨h1,D,hb⟩:=m;have la:=h.lt a D;have lb:=h.lt b hb;have v:=List.getElem?_eq_getElem la;have s:=List.getElem?_eq_getElem lb;have h1:=h1 _ _ v s;rw[E a _ v,E b _ s]
 have same:∀e,e<d->G_ (T[a].get (w.get e)) (T[b].get (w.get e))=0:=λe A=>by
  have q:=h.same a _ D v e A;have I:=h.same b _ hb s e A;rw[el_.zero _ _ _ q];have:=fe_ (T[b].get (w.get e)) (p.get (w.get e));omega
 have g:G_ (T[a].get (w.get d)) (T[b].get (w.get d))<=0:=by
  unfold A_ at h1;have r:w.get 0=w.i:=rfl;have B:w.get 1=w.j:=rfl;have F:w.get 2=w.k:=rfl;rcases (show d=0\/d=1\/d=2 by omega) with rfl | rfl | rfl
  ·rw[r];by_cases h0:G_ (T[a].get w.i) (T[b].get w.i)=0
   ·omega
   ·rw[b2_ h0]at h1;omega
  ·have o:=same 0 (by omega);rw[r]at o;rw[o,S_]at h1;rw[B];by_cases h0:G_ (T[a].get w.j) (T[b].get w.j)=0
   ·omega
   ·rw[b2_ h0]at h1;omega
  ·have o:=same 0 (by omega);have q:=same 1 (by omega);rw[r]at o;rw[B]at q;rw[o,q,S_,S_]at h1;rw[F];omega
 generalize T[a].get (w.get d)=x at g ⊢;generalize T[b].get (w.get d)=y at g ⊢;generalize p.get (w.get d)=z;rcases ks_ x z with C | C | C
 ·rcases ks_ y z with f | f | f<;>omega
 ·rcases ks_ y z with f | f | f
  ·have:=el_.trans_lt g (show G_ y z<0 by omega);omega
  ·omega
  ·omega
 ·rcases ks_ y z with f | f | f
  ·have:=el_.trans_lt g (show G_ y z<0 by omega);omega
  ·have:=el_.trans x y z g (by omega);omega
  ·omega
theorem ky_.next {w:Way} {T:List d_} {p:d_} {d:Nat} {l:List Nat} (h:ky_ w T p d l) (m:w.Ok) (j:(p.get (w.get d)).kind≠0) (c:Nat->Int) (i:∀n t,T[n]?=some t->c n=G_ (t.get (w.get d)) (p.get (w.get d))) :
    ky_ w T p (d+1) (l.filter λn=>decide (c n=0)):=by
 have a:(l.filter λn=>decide (c n=0)).Sublist l:=List.filter_sublist;refine⟨λn f=>h.lt n (a.subset f),h.rise.sublist a,h.nodup.sublist a,λn t f b e k=>?_,λe k=>?_,λn t b g=>?_⟩
 ·by_cases e0:e=d
  ·subst e0;rw[<-i n t b];exact of_decide_eq_true (List.mem_filter.1 f).2
  ·exact h.same n t (a.subset f) b e (by omega)
 ·by_cases e0:e=d
  ·subst e0;exact j
  ·exact h.bound e (by omega)
 ·refine List.mem_filter.2 ⟨h.all n t b g,decide_eq_true ?_⟩;rw[i n t b];exact Ao_ g _ (m.lt d) j
theorem Es_ {w:Way} {a b:d_}:(∀e,e<3->G_ (a.get (w.get e)) (b.get (w.get e))=0)↔A_ w a b=0:=by
 rw[oz_];constructor
 ·intro h;exact⟨h 0 (by omega),h 1 (by omega),h 2 (by omega)⟩
 ·rintro⟨h1,d,f⟩ e g;rcases (show e=0\/e=1\/e=2 by omega) with rfl | rfl | rfl
  ·exact h1
  ·exact d
  ·exact f
theorem j7_ {w:Way} {a b:d_} {d:Nat} (o:d<3) (h1:A_ w a b<=0) (f:∀e,e<d->G_ (a.get (w.get e)) (b.get (w.get e))=0):G_ (a.get (w.get d)) (b.get (w.get d))<=0:=by
 unfold A_ at h1;have h:w.get 0=w.i:=rfl;have l:w.get 1=w.j:=rfl;have n:w.get 2=w.k:=rfl;rcases (show d=0\/d=1\/d=2 by omega) with rfl | rfl | rfl
 ·rw[h];by_cases h0:G_ (a.get w.i) (b.get w.i)=0
  ·omega
  ·rw[b2_ h0]at h1;omega
 ·have g:=f 0 (by omega);rw[h]at g;rw[g,S_]at h1;rw[l];by_cases h0:G_ (a.get w.j) (b.get w.j)=0
  ·omega
  ·rw[b2_ h0]at h1;omega
 ·have g:=f 0 (by omega);have m:=f 1 (by omega);rw[h]at g;rw[l]at m;rw[g,m,S_,S_]at h1;rw[n];omega
def bk_ (w:Way) (pre:List h_) (t:d_):Prop:=∀e v,pre[e]?=some v->t.get (w.get e)=v
theorem bk_.nil (w:Way) (t:d_):bk_ w [] t:=λe v h=>by simp at h
theorem bk_.snoc {w:Way} {pre:List h_} {v:h_} {t:d_}:bk_ w (pre++[v]) t↔bk_ w pre t/\t.get (w.get pre.length)=v:=by
 constructor
 ·intro h;refine⟨λe u a=>h e u ?_,h _ _ (by simp)⟩;rw[List.getElem?_append_left (List.getElem?_eq_some_iff.1 a).1];exact a
 ·rintro⟨h1,f⟩ e u a;rcases Nat.lt_or_ge e pre.length with b | b
  ·rw[List.getElem?_append_left b]at a;exact h1 e u a
  ·have d:=(List.getElem?_eq_some_iff.1 a).1;simp only[List.length_append,List.length_cons,List.length_nil]at d;have:e=pre.length:=by omega
   subst this;simp at a;rw[f,a]
open Classical in
noncomputable def kz_ (T:List d_) (w:Way) (pre:List h_):List h_:=bb_ G_ ((T.filter λt=>decide (bk_ w pre t)).map λt=>t.get (w.get pre.length))
section
variable {T K:List d_} {w:Way}
theorem ux_ (h:∀t,t∈T->ce_ t) (pre:List h_):j2_ G_ (kz_ T w pre)/\∀x,x∈kz_ T w pre↔∃t,t∈T/\bk_ w pre t/\t.get (w.get pre.length)=x:=by
 unfold kz_
 have g:∀x,x∈((T.filter λt=>@decide (bk_ w pre t) (Classical.propDecidable _)).map λt=>t.get (w.get pre.length))↔∃t,t∈T/\bk_ w pre t/\t.get (w.get pre.length)=x:=λx=>by
  rw[List.mem_map];constructor
  ·rintro⟨t,j,e⟩;obtain⟨h1,f⟩:=List.mem_filter.1 j;exact⟨t,h1,@of_decide_eq_true _ (Classical.propDecidable _) f,e⟩
  ·rintro⟨t,h1,f,e⟩;exact⟨t,List.mem_filter.2 ⟨h1,@decide_eq_true _ (Classical.propDecidable _) f⟩,e⟩
 have d:∀x,x∈((T.filter λt=>@decide (bk_ w pre t) (Classical.propDecidable _)).map λt=>t.get (w.get pre.length))->Y_ x:=λx i=>by
  obtain⟨t,h1,_,e⟩:=(g x).1 i;rw[<-e];exact (h t h1).get _
 have:=ek_ el_ (l:=(T.filter λt=>@decide (bk_ w pre t) (Classical.propDecidable _)).map λt=>t.get (w.get pre.length)) λa k b hb h0=>e6_ (d a k) (d b hb) h0;exact⟨this.1,λx=>(this.2 x).trans (g x)⟩
structure h4_ (T K:List d_) (w:Way):Prop where
 ok:w.Ok
 mem:∀t,t∈K↔t∈T
 scal:∀t,t∈T->ce_ t
 rise:j2_ (A_ w) K
theorem h4_.le (h:h4_ T K w) {n m:Nat} {s t:d_} (b:K[n]?=some s) (d:K[m]?=some t) (i:n<=m):A_ w s t<=0:=by
 obtain⟨f,en⟩:=List.getElem?_eq_some_iff.1 b;obtain⟨g,a⟩:=List.getElem?_eq_some_iff.1 d;by_cases e:n=m
 ·subst e;rw[<-en,<-a];have:=(be_ w).refl K[n];omega
 ·have:=List.pairwise_iff_getElem.1 h.rise n m f g (by omega);rw[en,a]at this;omega
theorem h4_.scal' (h:h4_ T K w) {n:Nat} {s:d_} (a:K[n]?=some s):ce_ s:=h.scal s ((h.mem s).1 (List.mem_of_getElem? a))
theorem h4_.mono (h:h4_ T K w) {pre:List h_} (j:pre.length<3) {n m:Nat} {s t:d_} (f:K[n]?=some s) (g:K[m]?=some t) (b:n<=m) (d:bk_ w pre s) (i:bk_ w pre t):G_ (s.get (w.get pre.length)) (t.get (w.get pre.length))<=0:=by refine j7_ j (h.le f g b) λe a=>?_;rw[d e _ (List.getElem?_eq_getElem a),i e _ (List.getElem?_eq_getElem a)];exact df_ _
structure Lev (K:List d_) (w:Way) (pre:List h_) (v:h_) (a b s:Nat):Prop where
 d3:pre.length<3
 sa:s<=a
 ab:a<b
 bl:b<=K.length
 span:∀n t,K[n]?=some t->((s<=n/\n<b)↔bk_ w pre t)
 here:∀t,K[a]?=some t->t.get (w.get pre.length)=v
 first:∀n t,s<=n->n<a->K[n]?=some t->G_ (t.get (w.get pre.length)) v<0
structure s0_ (K:List d_) (f:d_->Prop) (a b q:Nat):Prop where
 aq:a<=q
 qb:q<=b
 no:∀n t,a<=n->n<q->K[n]?=some t->¬f t
 yes:∀t,q<b->K[q]?=some t->f t
theorem Lev.at_ {pre:List h_} {v:h_} {a b s:Nat} (h:Lev K w pre v a b s) {n:Nat} (d:n<b):∃t,K[n]?=some t:=⟨_,List.getElem?_eq_getElem (Nat.lt_of_lt_of_le d h.bl)⟩
theorem Lev.val (e:h4_ T K w) {pre:List h_} {v:h_} {a b s:Nat} (h:Lev K w pre v a b s):Y_ v:=by obtain⟨t,d⟩:=h.at_ h.ab;rw[<-h.here t d];exact (e.scal' d).get _
theorem Lev.to (i:h4_ T K w) {pre:List h_} {v:h_} {a b s q:Nat} (h:Lev K w pre v a b s) (l:h_->Bool)
    (r:s0_ K (λt=>l (t.get (w.get pre.length))=true) a b q) (f:h_->Bool) (O:∀x,x∈kz_ T w pre->f x=(decide (0<=G_ x v)&&l x)) :
    (q<b->∃x,(kz_ T w pre).find? f=some x/\(∀t,K[q]?=some t->t.get (w.get pre.length)=x)/\Lev K w pre x q b s)/\(q=b->(kz_ T w pre).find? f=none):=by
 obtain⟨P,G⟩:=ux_ (w:=w) i.scal pre;have Y:=h.val i
 have j:∀n t,s<=n->n<q->K[n]?=some t->f (t.get (w.get pre.length))=false:=λn t h1 E g=>by
  have hb:=(h.span n t g).1 ⟨h1,by have:=r.qb;omega⟩;rw[O _ ((G _).2 ⟨t,(i.mem t).1 (List.mem_of_getElem? g),hb,rfl⟩)];by_cases U:n<a
  ·have:=h.first n t h1 U g;rw[decide_eq_false (by omega)];rfl
  ·have:=r.no n t (by omega) E g
   cases hp:l (t.get (w.get pre.length)) with
   | true=>exact absurd hp this
   | false=>rw[Bool.and_false]
 constructor
 ·intro k;obtain⟨t,g⟩:=h.at_ k;have o:=(h.span q t g).1 ⟨by have:=h.sa;have:=r.aq;omega,k⟩;have A:=(G _).2 ⟨t,(i.mem t).1 (List.mem_of_getElem? g),o,rfl⟩;obtain⟨N,B⟩:=h.at_ h.ab;have R:=(h.span a N B).1 ⟨h.sa,h.ab⟩;have M:0<=G_ (t.get (w.get pre.length)) v:=by have:=i.mono h.d3 B g r.aq R o;rw[h.here N B]at this;have:=fe_ v (t.get (w.get pre.length));omega
  have I:f (t.get (w.get pre.length))=true:=by rw[O _ A,decide_eq_true M,r.yes t k g];rfl
  have J:∀n u,s<=n->n<q->K[n]?=some u->G_ (u.get (w.get pre.length)) (t.get (w.get pre.length))<0:=λn u h1 E d=>by
   have S:=(h.span n u d).1 ⟨h1,by omega⟩;have W:=i.mono h.d3 d g (by omega) S o;rcases Int.lt_or_eq_of_le W with L | L
   ·exact L
   ·have e:=e6_ ((i.scal' d).get _) ((i.scal' g).get _) L;have:=j n u h1 E d;rw[e,I]at this
    cases this
  refine⟨t.get (w.get pre.length),?_,λu d=>?_,⟨h.d3,by have:=h.sa;have:=r.aq;omega,k,h.bl,h.span,λu d=>?_,J⟩⟩
  ·rw[List.find?_eq_some_iff_append];refine⟨I,?_⟩;obtain⟨la,lb,e⟩:=List.append_of_mem A;refine⟨la,lb,e,λy F=>?_⟩;rw[e]at P;have X:=(List.pairwise_append.1 P).2.2 y F _ List.mem_cons_self;obtain⟨u,D,p,m⟩:=(G y).1 (by rw[e];exact List.mem_append_left _ F);obtain⟨n,z⟩:=List.getElem?_of_mem ((i.mem u).2 D);have C:=(h.span n u z).2 p
   have V:n<q:=by
    rcases Nat.lt_or_ge n q with h1 | h1
    ·exact h1
    ·have E:=i.mono h.d3 g z h1 o p;rw[m]at E;have:=fe_ y (t.get (w.get pre.length));omega
   have:=j n u C.1 V z;rw[m]at this;rw[this];rfl
  ·rw[g]at d;injection d with d;rw[d]
  ·rw[g]at d;injection d with d;rw[d]
 ·intro k;rw[List.find?_eq_none];intro y F;obtain⟨u,D,p,m⟩:=(G y).1 F;obtain⟨n,z⟩:=List.getElem?_of_mem ((i.mem u).2 D);have C:=(h.span n u z).2 p;have:=j n u C.1 (by omega) z;rw[m]at this;rw[this];exact Bool.false_ne_true
theorem Lev.down (k:h4_ T K w) {pre:List h_} {v:h_} {a b s q:Nat} (h:Lev K w pre v a b s) (S:pre.length<2) (m:s0_ K (λt=>0<G_ (t.get (w.get pre.length)) v) a b q) :
    ∃x r,kz_ T w (pre++[v])=x::r/\Lev K w (pre++[v]) x a q a:=by
 obtain⟨F,M⟩:=ux_ (w:=w) k.scal (pre++[v]);obtain⟨t,i⟩:=h.at_ h.ab;have z:=(h.span a t i).1 ⟨h.sa,h.ab⟩;have p:=bk_.snoc.2 ⟨z,h.here t i⟩;have I:=h.val k;have O:(pre++[v]).length=pre.length+1:=by simp
 have G:a<q:=by
  rcases Nat.lt_or_ge a q with h1 | h1
  ·exact h1
  ·have e:q=a:=by have:=m.aq;omega
   have j:=m.yes t (by rw[e];exact h.ab) (by rw[e];exact i);rw[h.here t i,df_]at j;omega
 have l:∀n u,K[n]?=some u->((a<=n/\n<q)↔bk_ w (pre++[v]) u):=λn u d=>by
  rw[bk_.snoc];constructor
  ·rintro⟨h1,j⟩;have A:=(h.span n u d).1 ⟨by have:=h.sa;omega,by have:=m.qb;omega⟩;refine⟨A,?_⟩;have f:=k.mono h.d3 i d h1 z A;rw[h.here t i]at f;have N:=m.no n u h1 j d;have:=fe_ v (u.get (w.get pre.length));exact (e6_ I ((k.scal' d).get _) (by omega)).symm
  ·rintro⟨h1,j⟩;have o:=(h.span n u d).2 h1;constructor
   ·rcases Nat.lt_or_ge n a with f | f
    ·have:=h.first n u o.1 f d;rw[j,df_]at this;omega
    ·exact f
   ·rcases Nat.lt_or_ge n q with f | f
    ·exact f
    ·obtain⟨y,D⟩:=h.at_ (show q<b by omega);have N:=m.yes y (by omega) D;have J:=(h.span q y D).1 ⟨by have:=h.sa;omega,by omega⟩;have P:=k.mono h.d3 D d f J h1;rw[j]at P;omega
 have g:=(M (t.get (w.get (pre++[v]).length))).2 ⟨t,(k.mem t).1 (List.mem_of_getElem? i),p,rfl⟩
 cases hk:kz_ T w (pre++[v]) with
 | nil=>rw[hk]at g;cases g
 | cons x r=>
  rw[hk]at g F
  have R:x=t.get (w.get (pre++[v]).length):=by
   rcases List.mem_cons.1 g with e | e
   ·exact e.symm
   ·have h1:=(List.pairwise_cons.1 F).1 _ e;obtain⟨u,L,B,E⟩:=(M x).1 (by rw[hk];exact List.mem_cons_self);obtain⟨n,C⟩:=List.getElem?_of_mem ((k.mem u).2 L);have o:=(l n u C).2 B;have j:=k.mono (pre:=pre++[v]) (by omega) i C o.1 p B;rw[E]at j;have:=fe_ x (t.get (w.get (pre++[v]).length));omega
  refine⟨x,r,rfl,by omega,Nat.le_refl _,G,Nat.le_trans m.qb h.bl,l,λu d=>?_,λn u h1 j=>absurd h1 (by omega)⟩;rw[i]at d;injection d with d;rw[<-d,R]
end
structure g4_ where
 way:List h_
 fin:Bool
def upA (c:g4_):g4_×Bool:=if c.way=[] then (c,false) else (⟨c.way.dropLast,false⟩,true)
def toF (a:Bool) (b v x:h_):Bool:=decide (0<=G_ x b)&&(if a=true then decide (0<G_ x v) else decide (0<=G_ x v))
noncomputable def toA (T:List d_) (w:Way) (a:Bool) (v:h_) (c:g4_):g4_×Bool:=
 match c.way.getLast? with
 | none=>(c,false)
 | some b=>if c.fin=true then (c,false) else match (kz_ T w c.way.dropLast).find? (toF a b v) with
  | some x=>(⟨c.way.dropLast++[x],false⟩,true)
  | none=>(⟨c.way,true⟩,false)
def Lj_ (c:g4_):Option h_:=if c.fin=true then none else c.way.getLast?
def upd (f:Nat->Nat) (e x:Nat):Nat->Nat:=λi=>if i=e then x else f i
theorem uy_ (f:Nat->Nat) (e x:Nat):upd f e x e=x:=if_pos rfl
theorem Ap_ (f:Nat->Nat) {e x i:Nat} (h:i≠e):upd f e x i=f i:=if_neg h
structure iq_ (K:List d_) (w:Way) (c:g4_) (at_ en:Nat->Nat):Prop where
 d3:c.way.length<=3
 fin0:c.fin=true->0<c.way.length
 lev:∀e v,c.way[e]?=some v->(e+1<c.way.length\/c.fin=false)->∃s,Lev K w (c.way.take e) v (at_ (e+1)) (en (e+1)) s
 end_:c.fin=true->at_ c.way.length=en c.way.length/\en c.way.length<=K.length
section
variable {T K:List d_} {w:Way} {c:g4_} {at_ en:Nat->Nat}
theorem iq_.start (K:List d_) (w:Way) (at_ en:Nat->Nat):iq_ K w ⟨[],false⟩ at_ en:=⟨Nat.zero_le _,λh=>(by cases h),λe v h=>(by simp at h),λh=>(by cases h)⟩
theorem iq_.last (h:iq_ K w c at_ en) (h0:0<c.way.length) (e:c.fin=false):∃v s,c.way.getLast?=some v/\c.way=c.way.dropLast++[v]/\c.way.dropLast.length+1=c.way.length/\Lev K w c.way.dropLast v (at_ c.way.length) (en c.way.length) s:=by
 have a:c.way≠[]:=List.length_pos_iff.1 h0;have d:c.way.getLast?=some (c.way.getLast a):=List.getLast?_eq_some_getLast a;have f:c.way[c.way.length-1]?=some (c.way.getLast a):=by rw[<-d,List.getLast?_eq_getElem?]
 obtain⟨s,b⟩:=h.lev _ _ f (.inr e);rw[<-List.dropLast_eq_take,Nat.sub_add_cancel h0]at b;exact⟨_,s,d,(List.dropLast_concat_getLast a).symm,by rw[List.length_dropLast];omega,b⟩
theorem iq_.stands (h:iq_ K w c at_ en) (h0:0<c.way.length):at_ c.way.length<en c.way.length↔c.fin=false:=by
 cases hf:c.fin with
 | true=>
  have:=(h.end_ hf).1;constructor
  ·intro h;omega
  ·intro h;cases h
 | false=>
  obtain⟨v,s,_,_,_,a⟩:=h.last h0 hf;exact⟨λ_=>rfl,λ_=>a.ab⟩
theorem iq_.key (h:iq_ K w c at_ en) (h0:0<c.way.length) (b:c.fin=false):∃v t,Lj_ c=some v/\K[at_ c.way.length]?=some t/\t.get (w.get (c.way.length-1))=v:=by
 obtain⟨v,s,e,f,g,a⟩:=h.last h0 b;obtain⟨t,d⟩:=a.at_ a.ab;refine⟨v,t,?_,d,?_⟩
 ·unfold Lj_;rw[b,if_neg Bool.false_ne_true,e]
 ·have:=a.here t d;rwa [show c.way.dropLast.length=c.way.length-1 by omega]at this
theorem iq_.up (h:iq_ K w c at_ en) (h0:0<c.way.length):upA c=(⟨c.way.dropLast,false⟩,true)/\iq_ K w ⟨c.way.dropLast,false⟩ at_ en:=by
 have d:c.way≠[]:=List.length_pos_iff.1 h0;constructor
 ·unfold upA;rw[if_neg d]
 ·refine⟨by have:=h.d3;rw[List.length_dropLast];omega,λh=>(by cases h),λe v a _=>?_,λh=>(by cases h)⟩;have g:=(List.getElem?_eq_some_iff.1 a).1;rw[List.length_dropLast]at g;have b:c.way[e]?=some v:=by rw[List.dropLast_eq_take,List.getElem?_take_of_lt (by omega)]at a;exact a
  obtain⟨s,f⟩:=h.lev e v b (.inl (by omega));refine⟨s,?_⟩;show Lev K w (c.way.dropLast.take e) v _ _ s;rw[List.dropLast_eq_take,List.take_take,Nat.min_eq_left (by omega)];exact f
theorem iq_.to (I:h4_ T K w) (h:iq_ K w c at_ en) (h0:0<c.way.length) (j:c.fin=false) (a:Bool) (v:h_) {q:Nat}
    (m:s0_ K (λt=>(if a=true then decide (0<G_ (t.get (w.get (c.way.length-1))) v) else decide (0<=G_ (t.get (w.get (c.way.length-1))) v))=true) (at_ c.way.length) (en c.way.length) q) :
    ∃b,toA T w a v c=(b,!b.fin)/\b.way.length=c.way.length/\iq_ K w b (upd at_ c.way.length q) en:=by
 obtain⟨E,s,z,F,G,A⟩:=h.last h0 j;rw[show c.way.length-1=c.way.dropLast.length by omega]at m;obtain⟨n,B⟩:=A.to I (λx=>if a=true then decide (0<G_ x v) else decide (0<=G_ x v)) m (toF a E v) λx _=>rfl
 have i:∀b:g4_,b.way.take c.way.dropLast.length=c.way.dropLast->b.way.length=c.way.length->∀e u,b.way[e]?=some u->e<c.way.dropLast.length->∃s,Lev K w (b.way.take e) u (upd at_ c.way.length q (e+1)) (en (e+1)) s:=by
  intro b D f e u d g
  have r:c.way[e]?=some u:=by
   have h1:(b.way.take c.way.dropLast.length)[e]?=some u:=by rw[List.getElem?_take_of_lt g];exact d
   rw[D]at h1;rw[F,List.getElem?_append_left g];exact h1
  obtain⟨s,J⟩:=h.lev e u r (.inr j);refine⟨s,?_⟩;rw[Ap_ _ (by omega)]
  have k:b.way.take e=c.way.take e:=by
   have y:(b.way.take c.way.dropLast.length).take e=b.way.take e:=by rw[List.take_take,Nat.min_eq_left (by omega)]
   rw[<-y,D,List.dropLast_eq_take,List.take_take,Nat.min_eq_left (by omega)]
  rw[k];exact J
 rcases Nat.lt_or_ge q (en c.way.length) with g | L
 ·obtain⟨x,p,M,o⟩:=n g;have f:(c.way.dropLast++[x]).length=c.way.length:=by simp only[List.length_append,List.length_cons,List.length_nil];omega
  refine⟨⟨c.way.dropLast++[x],false⟩,?_,f,?_⟩
  ·unfold toA;rw[z];simp only;rw[j,if_neg Bool.false_ne_true,p];rfl
  ·refine⟨by show (c.way.dropLast++[x]).length<=3;rw[f];exact h.d3,λh=>(by cases h),λe u d _=>?_,λh=>(by cases h)⟩;rcases Nat.lt_or_ge e c.way.dropLast.length with h1 | h1
   ·exact i ⟨c.way.dropLast++[x],false⟩ (by show (c.way.dropLast++[x]).take _=_;rw[List.take_left'];rfl) f e u d h1
   ·have k:=(List.getElem?_eq_some_iff.1 d).1;have y:(c.way.dropLast++[x]).length=c.way.dropLast.length+1:=by simp
    have k:e<(c.way.dropLast++[x]).length:=k;have:e=c.way.dropLast.length:=by omega
    subst this;have d:(c.way.dropLast++[x])[c.way.dropLast.length]?=some u:=d;rw[List.getElem?_append_right (Nat.le_refl _)]at d;simp at d;subst d;refine⟨s,?_⟩;show Lev K w ((c.way.dropLast++[x]).take c.way.dropLast.length) x _ _ s;rw[List.take_left' rfl,G,uy_];exact o
 ·have l:q=en c.way.length:=by have:=m.qb;omega
  refine⟨⟨c.way,true⟩,?_,rfl,?_⟩
  ·unfold toA;rw[z];simp only;rw[j,if_neg Bool.false_ne_true,B l];rfl
  ·refine⟨h.d3,λ_=>h0,λe u d C=>?_,λ_=>⟨?_,A.bl⟩⟩
   ·rcases C with h1 | h1
    ·exact i ⟨c.way,true⟩ (by show c.way.take _=_;rw[F];simp) rfl e u d (by have:e+1<c.way.length:=h1;omega)
    ·cases h1
   ·show upd at_ c.way.length q c.way.length=_;rw[uy_,l]
end
end
section
open Go Go.RowKit
structure uz_ (v:h_):Prop where
 kind:v.kind=1\/v.kind=2\/v.kind=3\/v.kind=4\/v.kind=8\/v.kind=9\/v.kind=10
 fit:a9_ v
theorem Et_ (a b:h_) (sa sb:Value) (w:World) (i:uz_ a) (k:a9_ b) (g:M_ w) (h:bc_ w) :
    Calls Tryz.prog 114 #[.agg (c_ a sa),.agg (c_ b sb)] w (b4_ a b w):=by
 have d:=q_ (λ(W:World) (l:Below w.heap.size w W)=>uw_ a b sa sb W i.kind i.fit k (g_ g l) (p_ h l));unfold b4_ at d ⊢;obtain⟨v,m⟩:=a_ (G_ a b);rw[m.o]at d ⊢;clear m i k g h;have j:=q_ λq p:Obj=>D_ w q p
 cases a with
 | mk E y s z u t=>
 cases b with
 | mk x B F r C A=>
 unfold c_ at d ⊢;simp only[h_.kind,h_.truth,h_.num,h_.text,h_.extra]at d ⊢;go_enter Tryz.func114,Tryz.ntmps114
 go_wp2_with fail;refine (d.o _ (j.o _ _)).mono ?_;rintro e D ⟨rfl,f⟩;have n:=q_ ((j.o _ _).trans (f.mono (j.o _ _).size));clear f;go_wp2_with fail;go_ret;exact⟨rfl,n.o⟩
def L_ (t:d_) (a:Nat->Value):Array Value:=c_ t.s (a 0)++c_ t.p (a 1)++c_ t.o (a 2)
theorem u0_ (t:d_) (a:Nat->Value):(L_ t a).size=18:=rfl
theorem aq_ (t:d_) (a:Nat->Value) (n:Nat) (d:n<3) (j:Nat) (b:j<6):(L_ t a)[n*6+j]?=(c_ (t.get n) (a n))[j]?:=by rcases (show n=0\/n=1\/n=2 by omega) with rfl | rfl | rfl<;>rcases (show j=0\/j=1\/j=2\/j=3\/j=4\/j=5 by omega) with rfl | rfl | rfl | rfl | rfl | rfl<;>kernel_rfl
structure Aq_ (c:Array Value) (t:d_) (ss:Nat->Value):Prop where
 o :L_ t ss=c
theorem bn_ (t:d_) (a:Nat->Value):∃c,Aq_ c t a:=⟨_,⟨rfl⟩⟩
theorem Aq_.size {c:Array Value} {t:d_} {a:Nat->Value} (h:Aq_ c t a):c.size=18:=by rw[<-h.o];rfl
theorem bv_ {w:World} {z:Nat} {c:Array Value} {T:TypeId} {b:Nat×Nat} {t:d_} {a:Nat->Value} (h:w.heap[z]?=some (.cells c T b)) (e:Aq_ c t a) {n:Nat} (g:n<3):w.rangeAt z (n*6) (c_ (t.get n) (a n)).toList:=λj v d=>by
 have f:j<6:=(List.getElem?_eq_some_iff.1 d).1;rw[cell_of_row w z (n*6+j) c T b h,<-e.o,aq_ t a n g j f,<-Array.getElem?_toList];exact d
theorem i5_ {P:Program} {w:World} {z o:Nat} {v:h_} {s:Value} (b:w.rangeAt z o (c_ v s).toList) (ty:TypeId) (d:TypeDesc) (a:P.underlying ty=some d) (e:d.isRow=true) (hi:(P.info? ty).map (·.size)=some 6) :
    (Instr.loadAt ty (.pointer (some ⟨z,o,none⟩))).run P w = .ok (.agg (c_ v s)) w:=by
 have:=run_loadAt_mid (P:=P) w z o ty (c_ v s).toList d b a e (by rw[Array.length_toList];exact hi);rwa [Array.toArray_toList]at this
structure AlM (w:World) (z:Nat) (c1 c2:Array Value) (wx:World):Prop where
 hb:Below w.heap.size w wx
 h1:wx.heap[z]?=some (.cells c1 99 (0,0))
 h2:wx.heap[z+1]?=some (.cells c2 99 (0,0))
theorem AlM.on {w a w':World} {z:Nat} {b d:Array Value} (h:AlM w z b d a) (hb:Below a.heap.size a w'):AlM w z b d w':=
 ⟨h.hb.trans (hb.mono h.hb.size),(hb.block _ (b_ h.h1)).trans h.h1,(hb.block _ (b_ h.h2)).trans h.h2⟩
theorem AlM.drew {w d:World} {z:Nat} {a b:Array Value} (h:AlM w z a b d):AlM w z a b d.drew:=⟨h.hb.drew,h.h1,h.h2⟩
def alK (w:Way) (a b:d_) (k:Nat):Prop:=∀e,e<k->G_ (a.get (w.get e)) (b.get (w.get e))=0
theorem Eu_ {w:Way} {a b:d_} {k:Nat} (e:k<3) (h:alK w a b k) (d:G_ (a.get (w.get k)) (b.get (w.get k))≠0):A_ w a b=G_ (a.get (w.get k)) (b.get (w.get k)):=by
 unfold A_;rcases (show k=0\/k=1\/k=2 by omega) with rfl | rfl | rfl
 ·exact b2_ d
 ·have h0:G_ (a.get w.i) (b.get w.i)=0:=h 0 (by omega);rw[h0,S_];exact b2_ d
 ·have h0:G_ (a.get w.i) (b.get w.i)=0:=h 0 (by omega);have h1:G_ (a.get w.j) (b.get w.j)=0:=h 1 (by omega);rw[h0,h1,S_,S_];rfl
theorem Ar_ {w:Way} {a b:d_} (h:alK w a b 3):A_ w a b=0:=Es_.1 λe d=>h e d
theorem o4_ {w:Way} {a b:d_} {k:Nat} (h:alK w a b k) (h0:G_ (a.get (w.get k)) (b.get (w.get k))=0):alK w a b (k+1):=λe f=>by
 by_cases d:e=k
 ·rw[d];exact h0
 ·exact h e (by omega)
theorem fh_ (z n:Nat) (a:n<3) (w:World):(Instr.indexAt 99 (.pointer (some ⟨z,0,none⟩)) (.int .i64 (n:Nat))).run Tryz.prog w = .ok (.pointer (some ⟨z,n*6,none⟩)) w:=by rcases (show n=0\/n=1\/n=2 by omega) with rfl | rfl | rfl<;>kernel_rfl
def xj_ (W:Way) (a b:d_) (w:World) (e:Ending) (w':World):Prop:=e = .returned (.int .i64 (A_ W a b))/\Below w.heap.size w w'
theorem l9_ (W:Way) (hW:W.Ok) (a b:d_) (sa sb:Nat->Value) (w:World) (ka:∀n,uz_ (a.get n)) (fb:∀n,a9_ (b.get n)) (a0:M_ w) (a1:bc_ w) :
    Calls Tryz.prog 51 #[.agg (L_ a sa),.agg (L_ b sb),.agg #[.int .i64 (W.i:Nat),.int .i64 (W.j:Nat),.int .i64 (W.k:Nat)]] w (xj_ W a b w):=by
 have E:=q_ (λ(n:Nat) (s:World) (hb:Below w.heap.size w s)=>Et_ (a.get n) (b.get n) (sa n) (sb n) s (ka n) (fb n) (g_ a0 hb) (p_ a1 hb));obtain⟨v,Hv⟩:=a_ (A_ W a b);have HE:=q_ (show ∀w',Below w.heap.size w w'->xj_ W a b w (.returned (.int .i64 v)) w' from λw' hb=>⟨by rw[Hv.o],hb⟩);have A:=q_ (λ(k:Nat) (X:k<3) (h:alK W a b k) (f:G_ (a.get (W.get k)) (b.get (W.get k))≠0)=>(show v=G_ (a.get (W.get k)) (b.get (W.get k)) from Hv.o.symm.trans (Eu_ X h f)));have Y:=q_ (λh:alK W a b 3=>(show v=0 from Hv.o.symm.trans (Ar_ h)));have D:=q_ (λk:Nat=>hW.lt k);clear Hv ka fb a0 a1 hW;obtain⟨R,M⟩:=bn_ a sa;obtain⟨P,O⟩:=bn_ b sb;rw[M.o,O.o];obtain⟨z,Hz⟩:=a_ w.heap.size;obtain⟨i,Hi⟩:=a_ W.i;obtain⟨j,Hj⟩:=a_ W.j;obtain⟨l,Hl⟩:=a_ W.k;rw[Hi.o,Hj.o,Hl.o];obtain⟨Z,N⟩:=a_ (((w.alloc (.cells R 99)).alloc (.cells P 99)).alloc (.cells #[.int .i64 (i:Nat),.int .i64 (j:Nat),.int .i64 (l:Nat)] 101));have t:=q_ (show AlM w z R P Z from by rw[<-N.o,<-Hz.o];exact⟨(D_ w _ _).alloc (by simp;omega) _,cp_ w _ _ _,cq_ w _ _ _⟩);have HP:=q_ (show Z.heap[z+2]?=some (.cells #[.int .i64 (i:Nat),.int .i64 (j:Nat),.int .i64 (l:Nat)] 101 (0,0)) from by rw[<-N.o,<-Hz.o];exact cr_ w _ _ _);have p0:Z.cell? ⟨z+2,0,none⟩=some (.int .i64 (i:Nat)):=cell_of_heap HP.o 0;have p1:Z.cell? ⟨z+2,1,none⟩=some (.int .i64 (j:Nat)):=cell_of_heap HP.o 1;have p2:Z.cell? ⟨z+2,2,none⟩=some (.int .i64 (l:Nat)):=cell_of_heap HP.o 2;go_enter Tryz.func51,Tryz.ntmps51
 go_upto_region 1 with fail;rw[N.o,Hz.o];clear N;go_wp2_with fail;clear p0 p1 p2 HP;go_loopw [11] (λU wx=>∃k:Nat,k<=3/\U = .int .i64 (k:Nat)/\AlM w z R P wx/\Q_ (alK W a b k)) (λU _=>3-(intOf U).toNat)
 case atStart=>exact⟨0,by omega,rfl,t.o,q_ (λe he=>absurd he (by omega))⟩
 case round=>
  obtain⟨k,X,rfl,hM,B⟩:=hrel;clear t;have t:=q_ hM;clear hM;by_cases L:k=3
  ·subst L;have J:=q_ (Y.o B.o);clear A Y B;go_wp2_with fail;go_ret;have:=HE.o _ t.o.hb;rwa [J.o]at this
  ·rcases (show k=0\/k=1\/k=2 by omega) with rfl | rfl | rfl
   ·clear X L;have en:=q_ (show W.get 0=i from Hi.o);have g:=q_ (show i<3 from by rw[<-en.o];exact D.o 0);have m:=q_ (λ(s:World) (hb:Below w.heap.size w s)=>E.o i s hb);unfold b4_ at m;have f:=q_ (A.o 0 (by omega) B.o);have p:=q_ (λh0=>o4_ (k:=0) B.o h0);rw[en.o]at f p;obtain⟨c,I⟩:=a_ (G_ (a.get i) (b.get i));rw[I.o]at m f p;clear A Y B D E en I;have G:=λW:World=>(show (Instr.index 101 (.agg #[.int .i64 (i:Nat),.int .i64 (j:Nat),.int .i64 (l:Nat)]) (.int .i64 0)).run Tryz.prog W = .ok (.int .i64 (i:Nat)) W from by kernel_rfl);go_upto_region 4 with fail;clear G;refine wp_region_held_drew (S:=λs=>AlM w z R P s) (by kernel_rfl) t.o.drew λd=>?_;refine W_.o ?_;refine X_ 0 14 (.int .i64 (i:Nat)) d λd=>?_;(try simp only[Act.put,aT,aZ,aS]);refine tkW 1 15 (.pointer (some ⟨z,i*6,none⟩)) d (λw q=>?_) λd=>?_
    ·exact o_ (fh_ z i g.o w)
    (try simp only[Act.put,aT,aZ,aS]);refine tkW 2 16 (.agg (c_ (a.get i) (sa i))) d (λw q=>?_) λd=>?_
    ·exact o_ (i5_ (bv_ q.h1 M g.o) 39 _ Tryz.underlying39 rfl (by kernel_rfl))
    (try simp only[Act.put,aT,aZ,aS]);refine X_ 3 17 (.int .i64 (i:Nat)) d λd=>?_;(try simp only[Act.put,aT,aZ,aS]);refine tkW 4 18 (.pointer (some ⟨z+1,i*6,none⟩)) d (λw q=>?_) λd=>?_
    ·exact o_ (fh_ (z+1) i g.o w)
    (try simp only[Act.put,aT,aZ,aS]);refine tkW 5 19 (.agg (c_ (b.get i) (sb i))) d (λw q=>?_) λd=>?_
    ·exact o_ (i5_ (bv_ q.h2 O g.o) 39 _ Tryz.underlying39 rfl (by kernel_rfl))
    (try simp only[Act.put,aT,aZ,aS]);obtain⟨u1,y⟩:=a_ (c_ (a.get i) (sa i));obtain⟨u2,u⟩:=a_ (c_ (b.get i) (sb i));rw[y.o,u.o]at m ⊢;refine tkC 6 λK F=>?_;change Oper.wp _ ⟨some 20,_,_,_,_,_⟩ _ _ _ _;go_simp;refine (m.o _ t.o.hb.drew).mono ?_;rintro e w2 ⟨rfl,x⟩;have C:=q_ (t.o.drew.on x);clear x m;dsimp only;refine F.out _ _ C.o λd=>?_;clear F K;(try simp only[Act.put,aT,aZ,aS]);refine X_ 7 9 (.int .i64 c) d λd=>?_;(try simp only[Act.put,aT,aZ,aS]);refine⟨wpAnyH_done (by kernel_rfl) ?_ _⟩;clear d t y u g;by_cases r:c=0
    ·have V:(c != 0)=false:=by simpa using r
     have hz:=q_ (p.o r);clear r f p;go_wp2_with fail;go_roundw
     case rel=>exact⟨1,by omega,(by first | rfl | trivial),C.o,hz⟩
     case measure=>simp[intOf]
    ·have V:(c != 0)=true:=bne_iff_ne.2 r;have J:=q_ (f.o r);clear r f p;go_wp2_with fail;go_ret;have:=HE.o _ C.o.hb;rwa [J.o]at this
   ·clear X L;have en:=q_ (show W.get 1=j from Hj.o);have g:=q_ (show j<3 from by rw[<-en.o];exact D.o 1);have m:=q_ (λ(s:World) (hb:Below w.heap.size w s)=>E.o j s hb);unfold b4_ at m;have f:=q_ (A.o 1 (by omega) B.o);have p:=q_ (λh0=>o4_ (k:=1) B.o h0);rw[en.o]at f p;obtain⟨c,I⟩:=a_ (G_ (a.get j) (b.get j));rw[I.o]at m f p;clear A Y B D E en I;have G:=λW:World=>(show (Instr.index 101 (.agg #[.int .i64 (i:Nat),.int .i64 (j:Nat),.int .i64 (l:Nat)]) (.int .i64 1)).run Tryz.prog W = .ok (.int .i64 (j:Nat)) W from by kernel_rfl);go_upto_region 4 with fail;clear G;refine wp_region_held_drew (S:=λs=>AlM w z R P s) (by kernel_rfl) t.o.drew λd=>?_;refine W_.o ?_;refine X_ 0 14 (.int .i64 (j:Nat)) d λd=>?_;(try simp only[Act.put,aT,aZ,aS]);refine tkW 1 15 (.pointer (some ⟨z,j*6,none⟩)) d (λw q=>?_) λd=>?_
    ·exact o_ (fh_ z j g.o w)
    (try simp only[Act.put,aT,aZ,aS]);refine tkW 2 16 (.agg (c_ (a.get j) (sa j))) d (λw q=>?_) λd=>?_
    ·exact o_ (i5_ (bv_ q.h1 M g.o) 39 _ Tryz.underlying39 rfl (by kernel_rfl))
    (try simp only[Act.put,aT,aZ,aS]);refine X_ 3 17 (.int .i64 (j:Nat)) d λd=>?_;(try simp only[Act.put,aT,aZ,aS]);refine tkW 4 18 (.pointer (some ⟨z+1,j*6,none⟩)) d (λw q=>?_) λd=>?_
    ·exact o_ (fh_ (z+1) j g.o w)
    (try simp only[Act.put,aT,aZ,aS]);refine tkW 5 19 (.agg (c_ (b.get j) (sb j))) d (λw q=>?_) λd=>?_
    ·exact o_ (i5_ (bv_ q.h2 O g.o) 39 _ Tryz.underlying39 rfl (by kernel_rfl))
    (try simp only[Act.put,aT,aZ,aS]);obtain⟨u1,y⟩:=a_ (c_ (a.get j) (sa j));obtain⟨u2,u⟩:=a_ (c_ (b.get j) (sb j));rw[y.o,u.o]at m ⊢;refine tkC 6 λK F=>?_;change Oper.wp _ ⟨some 20,_,_,_,_,_⟩ _ _ _ _;go_simp;refine (m.o _ t.o.hb.drew).mono ?_;rintro e w2 ⟨rfl,x⟩;have C:=q_ (t.o.drew.on x);clear x m;dsimp only;refine F.out _ _ C.o λd=>?_;clear F K;(try simp only[Act.put,aT,aZ,aS]);refine X_ 7 9 (.int .i64 c) d λd=>?_;(try simp only[Act.put,aT,aZ,aS]);refine⟨wpAnyH_done (by kernel_rfl) ?_ _⟩;clear d t y u g;by_cases r:c=0
    ·have V:(c != 0)=false:=by simpa using r
     have hz:=q_ (p.o r);clear r f p;go_wp2_with fail;go_roundw
     case rel=>exact⟨2,by omega,(by first | rfl | trivial),C.o,hz⟩
     case measure=>simp[intOf]
    ·have V:(c != 0)=true:=bne_iff_ne.2 r;have J:=q_ (f.o r);clear r f p;go_wp2_with fail;go_ret;have:=HE.o _ C.o.hb;rwa [J.o]at this
   ·clear X L;have en:=q_ (show W.get 2=l from Hl.o);have g:=q_ (show l<3 from by rw[<-en.o];exact D.o 2);have m:=q_ (λ(s:World) (hb:Below w.heap.size w s)=>E.o l s hb);unfold b4_ at m;have f:=q_ (A.o 2 (by omega) B.o);have p:=q_ (λh0=>o4_ (k:=2) B.o h0);rw[en.o]at f p;obtain⟨c,I⟩:=a_ (G_ (a.get l) (b.get l));rw[I.o]at m f p;clear A Y B D E en I;have G:=λW:World=>(show (Instr.index 101 (.agg #[.int .i64 (i:Nat),.int .i64 (j:Nat),.int .i64 (l:Nat)]) (.int .i64 2)).run Tryz.prog W = .ok (.int .i64 (l:Nat)) W from by kernel_rfl);go_upto_region 4 with fail;clear G;refine wp_region_held_drew (S:=λs=>AlM w z R P s) (by kernel_rfl) t.o.drew λd=>?_;refine W_.o ?_;refine X_ 0 14 (.int .i64 (l:Nat)) d λd=>?_;(try simp only[Act.put,aT,aZ,aS]);refine tkW 1 15 (.pointer (some ⟨z,l*6,none⟩)) d (λw q=>?_) λd=>?_
    ·exact o_ (fh_ z l g.o w)
    (try simp only[Act.put,aT,aZ,aS]);refine tkW 2 16 (.agg (c_ (a.get l) (sa l))) d (λw q=>?_) λd=>?_
    ·exact o_ (i5_ (bv_ q.h1 M g.o) 39 _ Tryz.underlying39 rfl (by kernel_rfl))
    (try simp only[Act.put,aT,aZ,aS]);refine X_ 3 17 (.int .i64 (l:Nat)) d λd=>?_;(try simp only[Act.put,aT,aZ,aS]);refine tkW 4 18 (.pointer (some ⟨z+1,l*6,none⟩)) d (λw q=>?_) λd=>?_
    ·exact o_ (fh_ (z+1) l g.o w)
    (try simp only[Act.put,aT,aZ,aS]);refine tkW 5 19 (.agg (c_ (b.get l) (sb l))) d (λw q=>?_) λd=>?_
    ·exact o_ (i5_ (bv_ q.h2 O g.o) 39 _ Tryz.underlying39 rfl (by kernel_rfl))
    (try simp only[Act.put,aT,aZ,aS]);obtain⟨u1,y⟩:=a_ (c_ (a.get l) (sa l));obtain⟨u2,u⟩:=a_ (c_ (b.get l) (sb l));rw[y.o,u.o]at m ⊢;refine tkC 6 λK F=>?_;change Oper.wp _ ⟨some 20,_,_,_,_,_⟩ _ _ _ _;go_simp;refine (m.o _ t.o.hb.drew).mono ?_;rintro e w2 ⟨rfl,x⟩;have C:=q_ (t.o.drew.on x);clear x m;dsimp only;refine F.out _ _ C.o λd=>?_;clear F K;(try simp only[Act.put,aT,aZ,aS]);refine X_ 7 9 (.int .i64 c) d λd=>?_;(try simp only[Act.put,aT,aZ,aS]);refine⟨wpAnyH_done (by kernel_rfl) ?_ _⟩;clear d t y u g;by_cases r:c=0
    ·have V:(c != 0)=false:=by simpa using r
     have hz:=q_ (p.o r);clear r f p;go_wp2_with fail;go_roundw
     case rel=>exact⟨3,by omega,(by first | rfl | trivial),C.o,hz⟩
     case measure=>simp[intOf]
    ·have V:(c != 0)=true:=bne_iff_ne.2 r;have J:=q_ (f.o r);clear r f p;go_wp2_with fail;go_ret;have:=HE.o _ C.o.hb;rwa [J.o]at this
end
section
open Go Go.RowKit Go.Maps
def keyV (v:h_):ByteArray:=t1_ (dk_ v)
theorem As_ {v:h_} (a:U_ v<=200000):(keyV v).size<=40000000:=by
 have:=mr_ v;have e:(keyV v).size=(dk_ v).length:=by simp[keyV,t1_,ByteArray.size]
 omega
theorem Hx_ {v:h_} (a:U_ v<=200000):VS (keyV v):=by have:=As_ a;unfold VS maxLen;omega
theorem Ev_ {v u:h_} (b:K_ v 0=true) (d:K_ u 0=true) (h1:kn_ v) (a:kn_ u) (h:keyV v=keyV u):v=u:=by refine J2_ b d h1 a ?_;have:=congrArg (λs:ByteArray=>s.data.toList) h;exact this
theorem ma_ {v:h_} (h:Y_ v):U_ v<=40000:=by
 have a:=h.1
 have key:∀(k:Int) (b:Bool) (n:Int) (t x:ByteArray),v = .mk k b n t x []->t.size<=1048576->x.size<=1048576->U_ v<=40000:=λk b n t x e h1 f=>by
  rw[e];simp only[U_,af_];omega
 have h0:(⟨#[]⟩:ByteArray).size<=1048576:=by decide
 rcases bp_ h with⟨_,e⟩ | ⟨_,e⟩ | ⟨_,_,e⟩ | ⟨d,e⟩
 ·exact key _ _ _ _ _ e h0 h0
 ·exact key _ _ _ _ _ e h0 h0
 ·rw[e]at a;exact key _ _ _ _ _ e (ss_ a).2.2.2.2 h0
 ·generalize v.kind=k at d e;rw[e]at a;rcases d with rfl | rfl | rfl | rfl
  ·have:=st_ a;exact key _ _ _ _ _ e this.2.2.2.2 (by rw[this.2.2.1];exact h0)
  ·have:=lz_ a;exact key _ _ _ _ _ e this.2.2.2.2 (by rw[this.2.2.1];exact h0)
  ·have:=or_ a;exact key _ _ _ _ _ e this.2.2.2.2 (by rw[this.2.2.1];exact h0)
  ·have:=nn_ a;exact key _ _ _ _ _ e this.2.2.2.1 this.2.2.2.2
theorem Ew_ {v:h_} (h:Y_ v):v.list=[]:=by rcases bp_ h with⟨_,e⟩ | ⟨_,e⟩ | ⟨_,_,e⟩ | ⟨_,e⟩<;>(rw[e];rfl)
theorem u1_ {v:h_} (h:Y_ v):kn_ v:=by
 have a:=Ew_ h;obtain⟨_,_,h1,d⟩:=h
 cases v with
 | mk k b n t x l=>
  change l=[]at a;subst a;unfold kn_;refine⟨⟨h1,d⟩,?_⟩;unfold sr_;trivial
theorem u2_ {v u:h_} (a:Y_ v) (b:Y_ u) (h:keyV v=keyV u):v=u:=Ev_ a.1 b.1 (u1_ a) (u1_ b) h
theorem np_ {v:h_} (h:Y_ v):VS (keyV v):=Hx_ (Nat.le_trans (ma_ h) (by decide))
theorem k0_ {D:List h_} (d:∀x,x∈D->Y_ x) {v:h_} (b:Y_ v):keyV v∈D.map keyV↔v∈D:=by
 rw[List.mem_map];constructor
 ·rintro⟨u,a,e⟩;rw[<-u2_ (d u a) b e];exact a
 ·exact λh=>⟨v,h,rfl⟩
open Classical in
theorem mkey_place {D:List h_} (d:∀x,x∈D->Y_ x) {v:h_} (i:Y_ v):((place (D.map keyV) (keyV v):Nat):Int)=a6_ D v:=by
 unfold a6_;congr 1
 induction D with
 | nil=>rfl
 | cons a r b=>
  have b:=b λx g=>d x (List.mem_cons_of_mem _ g);rw[List.map_cons,j4_,j4_,b];by_cases e:a=v
  ·subst e;rw[if_pos rfl,if_pos rfl]
  ·have f:keyV a≠keyV v:=λh=>e (u2_ (d a List.mem_cons_self) i h);rw[if_neg f,if_neg e]
theorem bo_ (w:World) (F:Nat->Prop) {v:h_} (h:v.list=[]) (A:Option Addr) (a:Nat):VRd w F v (.agg (c_ v (.slice A 0 a))):=by have:=VRd.mk (w:=w) (F:=F) v A a ⟨0,0,none⟩ (λ_=>#[]) (by rw[h];exact Nat.zero_le _) (by rw[h];intro h;cases h) (by rw[h];intro i h;cases h) (by rw[h];intro i x h;simp at h);rw[h]at this;exact this
theorem cs_:(Tryz.prog.info? 39).map (·.size)=some 6:=by kernel_rfl
def o5_ (v:h_) (w:World) (e:Ending) (w':World):Prop:=e = .returned (.string (keyV v))/\Below w.heap.size w w'
theorem o6_ (v:h_) (j:Y_ v) (A:Option Addr) (d:Nat) (w:World) (y:M_ w):Calls Tryz.prog 70 #[.agg (c_ v (.slice A 0 d))] w (o5_ v w):=by
 have a:=q_ (λ(W:World) (hb:Below w.heap.size w W)=>ww_ v (Nat.le_trans (ma_ j) (by decide)) (λ_=>False) (.agg (c_ v (.slice A 0 d))) W (λg h=>h.elim) (bo_ W _ (Ew_ j) A d) (g_ y hb));unfold Dl_ at a;unfold o5_;rw[j.1]at a;obtain⟨C,m⟩:=a_ (keyV v);have l:∀(W:World) (t:Nat) (n:Value),W.ownsRow t 5 1 n (dk_ v).length (Lib.byteCells (dk_ v))->(convert 197 9 n).run Tryz.prog W = .ok (.string C) W:=λW t n B=>by rw[<-m.o];exact Cx_ B
 have k:=q_ l;obtain⟨en,D⟩:=a_ (dk_ v);rw[D.o]at k a;rw[m.o];obtain⟨c,x⟩:=F_ v (.slice A 0 d);rw[x.o]at a ⊢;clear l j;obtain⟨z,u⟩:=a_ w.heap.size;obtain⟨p,b⟩:=a_ (w.alloc (.cells c 39));have i:=q_ (show Below w.heap.size w p from by rw[<-b.o];exact (Below.refl _ _).alloc (Nat.le_refl _) _);have q:=q_ (show p.heap[z]?=some (.cells c 39 (0,0)) from by rw[<-b.o,<-u.o];exact heap_alloc_new w _);have E:=q_ (show (Tryz.prog.info? 39).map (·.size)=some c.size from cs_.trans (congrArg some x.size.symm));go_enter Tryz.func70,Tryz.ntmps70
 go_upto_region 1 with fail;rw[b.o,u.o];clear b;go_wp2_with ((with_reducible refine e_ (some 6) ?_);refine w_ rfl 39 _ rfl z 0 rfl c _ (k_ q.o) Tryz.underlying39 rfl E.o ?_)
 refine (a.o p i.o).mono ?_;rintro e w2 ⟨hb,r,rfl,f⟩;have s:=q_ (i.o.trans (hb.mono i.o.size));have F:=k.o w2 _ r f;clear hb f;go_wp2_with fail;go_ret;exact⟨rfl,s.o⟩
end
section
open Go Go.RowKit
theorem Lk_ {w:World} {F:Nat->Prop} {l:List Int} {A:Option Addr} {n:Nat} (h:SRd 1 IxR w F l A n) {i:Nat} {x:Int} (d:l[i]?=some x) :
    ∃ad,A=some ad/\F ad.block/\w.cell? (ad.add i)=some (.int .i64 x):=by
 obtain⟨ad,c,e,g,_,f,a⟩:=h.at_ d;have b:=f 0 (by omega);rw[a]at b;exact⟨ad,e,g,by simpa using b⟩
def inI (l:List Int) (x:Int):Bool:=decide (x∈l)
def Jp_ (b:Bool) (w:World) (e:Ending) (w':World):Prop:=e = .returned (.bool b)/\w'=w
def L6_ (b:Bool) (w:World) (e:Ending) (w':World):Prop:=∃r:Int,e = .returned (.int .i64 r)/\decide (0<=r)=b/\w'=w
theorem Ex_ (l:List Int) (x:Int) (F:Nat->Prop) (A:Option Addr) (n c:Nat) (w:World) (h:SRd 1 IxR w F l A n) (B:n<=1000000000) :
    Calls Tryz.prog 118 #[.slice A n c,.int .i64 x] w (L6_ (inI l x) w):=by
 have u:=q_ h;have t:=q_ h.1;clear h;obtain⟨r,g⟩:=a_ (inI l x);rw[g.o];go_enter Tryz.func118,Tryz.ntmps118
 go_wp2_with fail;go_loopw [8] (λe z=>∃k:Nat,k<=n/\e = .int .i64 (k:Nat)/\Q_ (z=w/\x∉l.take k)) (λe _=>n-(intOf e).toNat)
 case atStart=>exact⟨0,by omega,rfl,q_ ⟨rfl,by simp⟩⟩
 case round=>
  obtain⟨k,D,rfl,b⟩:=hrel;by_cases j:k<n
  ·obtain⟨y,f⟩:∃y,l[k]?=some y:=⟨l[k]'(by rw[<-t.o];exact j),List.getElem?_eq_getElem _⟩;have q:=q_ f;obtain⟨ad,rfl,_,I⟩:=Lk_ (u.o.keep IxR.good (w':=wr) (λp _=>by rw[b.o.1])) f;clear f;have C:(0:Int)<=k:=by omega
   have E:(k:Int)<n:=by omega
   have G:IntKind.i64.wrap ((k:Int)+1)=(k:Int)+1:=IntWalk.i64_in _ (by omega);by_cases a:x=y
   ·subst a;have v:(x==x)=true:=beq_self_eq_true _;have i:=q_ (show r=true from by rw[<-g.o];exact decide_eq_true (List.mem_of_getElem? q.o));go_wp2_with fail;go_ret;exact⟨(k:Int),rfl,by rw[i.o];simp,b.o.1⟩
   ·have v:(x==y)=false:=beq_eq_false_iff_ne.2 a;have s:=q_ a;clear a;go_wp2_with fail;go_roundw
    case rel=>
     refine⟨k+1,by omega,by go_num,q_ ⟨b.o.1,λd=>?_⟩⟩;rw[f_ q.o]at d;rcases List.mem_append.1 d with d | d
     ·exact b.o.2 d
     ·exact s.o (List.mem_singleton.1 d)
    case measure=>simp[intOf];omega
  ·have m:n=k:=by omega
   subst m;have i:=q_ (show r=false from by rw[<-g.o];refine decide_eq_false ?_;have h:=b.o.2;rw[List.take_of_length_le (by rw[<-t.o];exact Nat.le_refl _)]at h;exact h);go_wp2_with fail;go_ret;exact⟨-1,rfl,by rw[i.o];simp,b.o.1⟩
theorem qe_ (l:List Int) (x:Int) (F:Nat->Prop) (A:Option Addr) (n c:Nat) (w:World) (h:SRd 1 IxR w F l A n) (f:n<=1000000000) :
    Calls Tryz.prog 58 #[.slice A n c,.int .i64 x] w (Jp_ (inI l x) w):=by
 have a:=q_ (Ex_ l x F A n c w h f);clear h;obtain⟨r,b⟩:=a_ (inI l x);rw[b.o]at a ⊢;clear b;go_enter Tryz.func58,Tryz.ntmps58
 go_wp2_with fail;refine a.o.mono ?_;rintro e w' ⟨q,rfl,d,rfl⟩;go_wp2_with fail;go_ret;exact⟨by rw[<-d];rfl,rfl⟩
def TrR:bi_ d_:=λw F t c=>∃a:Nat->Value,c=L_ t a/\∀n,n<3->VRd w F (t.get n) (.agg (c_ (t.get n) (a n)))
theorem TrR.good:TrR.Good:=⟨fun⟨ss,e,h⟩ hk=>⟨ss,e,λn a=>(h n a).keep hk⟩,fun⟨ss,e,h⟩ hF=>⟨ss,e,λn a=>(h n a).mono hF⟩⟩
structure OkV (v:h_):Prop where
 size:U_ v<=100000000
 n0:-9223372036854775808<=v.num
 n1:v.num<=9223372036854775807
theorem OkV.fit {v:h_} (h:OkV v):a9_ v:=⟨h.n0,h.n1,by
 have:=h.size
 cases v with
 | mk k b n t x l=>
 simp only[U_]at this;show t.size<=_;omega⟩
def OkT (t:d_):Prop:=OkV t.s/\OkV t.p/\OkV t.o
theorem OkT.get {t:d_} (h:OkT t) (n:Nat):OkV (t.get n):=by
 unfold d_.get;split
 ·exact h.1
 ·split
  ·exact h.2.1
  ·exact h.2.2
theorem dg_ {t:d_} (h:dh_ t=true) (a:OkT t):ce_ t:=by unfold dh_ at h;simp only[Bool.and_eq_true,decide_eq_true_eq]at h;exact⟨⟨h.1,by omega,a.1.n0,a.1.n1⟩,⟨h.2.1,by omega,a.2.1.n0,a.2.1.n1⟩,⟨h.2.2.1,by omega,a.2.2.n0,a.2.2.n1⟩⟩
theorem ad_ {P:Program} {e:Func} {a:Tmp} {T k:TypeId} {w:World} (h:e.results=#[.cell a T]) {b:Array Value} {g:Nat} (l:b.getD a undef = .pointer (some ⟨g,0,none⟩)) {c:Array Value} (i:w.heap[g]?=some (.cells c k (0,0)))
    (d:TypeDesc) (j:P.underlying T=some d) (m:d.isRow=true) (hi:(P.info? T).map (·.size)=some c.size):(results e b).run P w = .ok (.agg c) w:=by
 have:=run_loadVar_mid (P:=P) w g 0 T c.toList d (k_ i) j m (by rw[Array.length_toList];exact hi);rw[Array.toArray_toList]at this;have f:b[a]?.getD undef = .pointer (some ⟨g,0,none⟩):=by rw[<-l];simp
 simp[results,h,f,asAddr,this]
def mb_:List Int:=[8,9,10,4,1,2,3]
theorem u3_ (w:World):SRd 1 IxR (w.alloc (.cells #[.int .i64 8,.int .i64 9,.int .i64 10,.int .i64 4,.int .i64 1,.int .i64 2,.int .i64 3] 3)) (λb=>b=w.heap.size) mb_ (some ⟨w.heap.size,0,none⟩) 7:=by
 refine⟨rfl,λ_=>⟨_,rfl,rfl,λi x a=>⟨#[.int .i64 x],rfl,λj f=>?_,rfl⟩⟩⟩;have d:j=0:=by omega
 subst d;have hi:=(List.getElem?_eq_some_iff.1 a).1;have e:i<7:=hi;rcases (show i=0\/i=1\/i=2\/i=3\/i=4\/i=5\/i=6 by omega) with rfl | rfl | rfl | rfl | rfl | rfl | rfl
 all_goals (injection a with a;subst a;exact cell_of_heap (heap_alloc_new w _) _)
theorem Hy_ (s p o:h_):dh_ ⟨s,p,o⟩=(K_ s 0&&(K_ p 0&&(K_ o 0&&(decide (p.kind=8)&&(decide (s.kind=8\/s.kind=9)&&inI mb_ o.kind))))):=by unfold dh_ inI mb_;simp only[List.mem_cons,List.not_mem_nil,or_false]
theorem o7_ (f:Int) (l:Bool) (o:Int) (d k:ByteArray) (s:List h_) (p:Int) (i:Bool) (e:Int) (j g:ByteArray) (r:List h_) (h:Int) (m:Bool) (q:Int) (b n:ByteArray) (t:List h_) (a:Nat->Value):L_ ⟨.mk f l o d k s,.mk p i e j g r,.mk h m q b n t⟩ a=#[.int .i64 f,.bool l,.int .i64 o,.string d,.string k,a 0,.int .i64 p,.bool i,.int .i64 e,.string j,.string g,a 1,.int .i64 h,.bool m,.int .i64 q,.string b,.string n,a 2]:=by kernel_rfl
def y8_ (c:Array Value) (w:World) (e:Ending) (w':World):Prop:=e = .returned (.agg c)/\Below w.heap.size w w'
theorem u4_ (t:d_) (Y:Nat->Value) (m:∀n,n<3->∃A l c,Y n = .slice A l c) (w:World):Calls Tryz.prog 47 #[.agg (L_ t Y)] w (y8_ (L_ t Y) w):=by
 obtain⟨x,h,O,h0⟩:=m 0 (by omega);obtain⟨N,i,J,h1⟩:=m 1 (by omega);obtain⟨y,e,D,h2⟩:=m 2 (by omega)
 cases t with
 | mk s p o=>
 cases s with
 | mk B L R r I l0=>
 cases p with
 | mk S F u G C l1=>
 cases o with
 | mk E M U q P l2=>
 rw[o7_,h0,h1,h2];clear h0 h1 h2 m;have d:=q_ (show (Tryz.prog.info? 99).map (·.size)=some 18 from by kernel_rfl);have V:=q_ (show (#[.int .i64 B,.bool L,.int .i64 R,.string r,.string I,(.slice x h O),.int .i64 S,.bool F,.int .i64 u,.string G,.string C,(.slice N i J),.int .i64 E,.bool M,.int .i64 U,.string q,.string P,(.slice y e D)]:Array Value).all (·.oneCell')=true from by kernel_rfl);obtain⟨z,W⟩:=a_ w.heap.size;obtain⟨a,j⟩:=a_ ((w.alloc (.cells #[.int .i64 B,.bool L,.int .i64 R,.string r,.string I,(.slice x h O),.int .i64 S,.bool F,.int .i64 u,.string G,.string C,(.slice N i J),.int .i64 E,.bool M,.int .i64 U,.string q,.string P,(.slice y e D)] 41)).alloc (.cells #[.int .i64 0,.bool false,.int .i64 0,.string ⟨#[]⟩,.string ⟨#[]⟩,.slice none 0 0,.int .i64 0,.bool false,.int .i64 0,.string ⟨#[]⟩,.string ⟨#[]⟩,.slice none 0 0,.int .i64 0,.bool false,.int .i64 0,.string ⟨#[]⟩,.string ⟨#[]⟩,.slice none 0 0] 99));have HB:=q_ (show Below w.heap.size w a from by rw[<-j.o];exact D_ w _ _);have b:=q_ (show a.heap[z]?=some (.cells #[.int .i64 B,.bool L,.int .i64 R,.string r,.string I,(.slice x h O),.int .i64 S,.bool F,.int .i64 u,.string G,.string C,(.slice N i J),.int .i64 E,.bool M,.int .i64 U,.string q,.string P,(.slice y e D)] 41 (0,0)) from by rw[<-j.o,<-W.o];exact heap_alloc2_old w _ _);have HY:=q_ (show a.heap[z+1]?=some (.cells #[.int .i64 0,.bool false,.int .i64 0,.string ⟨#[]⟩,.string ⟨#[]⟩,.slice none 0 0,.int .i64 0,.bool false,.int .i64 0,.string ⟨#[]⟩,.string ⟨#[]⟩,.slice none 0 0,.int .i64 0,.bool false,.int .i64 0,.string ⟨#[]⟩,.string ⟨#[]⟩,.slice none 0 0] 99 (0,0)) from by rw[<-j.o,<-W.o];exact heap_alloc2_new w _ _);go_enter Tryz.func47,Tryz.ntmps47
 go_upto_region 1 with fail;rw[j.o,W.o];clear j;have p0:=(show a.cell? ⟨z,0,none⟩=some (.int .i64 B) from cell_of_heap b.o 0);have p1:=(show a.cell? ⟨z,1,none⟩=some (.bool L) from cell_of_heap b.o 1);have p2:=(show a.cell? ⟨z,2,none⟩=some (.int .i64 R) from cell_of_heap b.o 2);have p3:=(show a.cell? ⟨z,3,none⟩=some (.string r) from cell_of_heap b.o 3);have p4:=(show a.cell? ⟨z,4,none⟩=some (.string I) from cell_of_heap b.o 4);have p5:=(show a.cell? ⟨z,5,none⟩=some (.slice x h O) from cell_of_heap b.o 5);have p6:=(show a.cell? ⟨z,6,none⟩=some (.int .i64 S) from cell_of_heap b.o 6);have p7:=(show a.cell? ⟨z,7,none⟩=some (.bool F) from cell_of_heap b.o 7);have p8:=(show a.cell? ⟨z,8,none⟩=some (.int .i64 u) from cell_of_heap b.o 8);have p9:=(show a.cell? ⟨z,9,none⟩=some (.string G) from cell_of_heap b.o 9);have a2:=(show a.cell? ⟨z,10,none⟩=some (.string C) from cell_of_heap b.o 10);have a3:=(show a.cell? ⟨z,11,none⟩=some (.slice N i J) from cell_of_heap b.o 11);have a7:=(show a.cell? ⟨z,12,none⟩=some (.int .i64 E) from cell_of_heap b.o 12);have a8:=(show a.cell? ⟨z,13,none⟩=some (.bool M) from cell_of_heap b.o 13);have a4:=(show a.cell? ⟨z,14,none⟩=some (.int .i64 U) from cell_of_heap b.o 14);have a5:=(show a.cell? ⟨z,15,none⟩=some (.string q) from cell_of_heap b.o 15);have a6:=(show a.cell? ⟨z,16,none⟩=some (.string P) from cell_of_heap b.o 16);have a1:=(show a.cell? ⟨z,17,none⟩=some (.slice y e D) from cell_of_heap b.o 17);go_wp2_with ((with_reducible refine y_ 2 ?_);refine m_ rfl 99 _ _ rfl (z+1) (#[.int .i64 0,.bool false,.int .i64 0,.string ⟨#[]⟩,.string ⟨#[]⟩,.slice none 0 0,.int .i64 0,.bool false,.int .i64 0,.string ⟨#[]⟩,.string ⟨#[]⟩,.slice none 0 0,.int .i64 0,.bool false,.int .i64 0,.string ⟨#[]⟩,.string ⟨#[]⟩,.slice none 0 0]) (#[.int .i64 B,.bool L,.int .i64 R,.string r,.string I,(.slice x h O),.int .i64 S,.bool F,.int .i64 u,.string G,.string C,(.slice N i J),.int .i64 E,.bool M,.int .i64 U,.string q,.string P,(.slice y e D)]) 99 rfl rfl HY.o rfl d.o V.o ?_;intro w2 X f)
 have Z:=q_ (show Below w.heap.size w w2 from HB.o.trans ⟨f.os,f.tape,f.output,f.size,λk hk=>f.block k (Nat.lt_of_lt_of_le hk HB.o.size) (by rw[<-W.o];omega)⟩);have a0:=q_ X;clear X f;go_wp2_with fail;refine bodyPost_ret (v:=.agg #[.int .i64 B,.bool L,.int .i64 R,.string r,.string I,(.slice x h O),.int .i64 S,.bool F,.int .i64 u,.string G,.string C,(.slice N i J),.int .i64 E,.bool M,.int .i64 U,.string q,.string P,(.slice y e D)]) (ad_ Tryz.results47 (g:=z+1) rfl a0.o _ Tryz.underlying99 rfl d.o) rfl ⟨rfl,Z.o⟩
theorem xk_ (t:d_) (ok:OkT t) (F:Nat->Prop) (P:Nat->Value) (w:World) (U:∀g,F g->g<w.heap.size) (hv:∀n,n<3->VRd w F (t.get n) (.agg (c_ (t.get n) (P n)))) (hg:M_ w) :
    Calls Tryz.prog 15 #[.agg (L_ t P)] w (z_ (dh_ t) w):=by
 have v:=q_ (λ(W:World) (hb:Below w.heap.size w W)=>d3_ t.s (Nat.le_trans ok.1.size (by decide)) F (.agg (c_ t.s (P 0))) W (λg h=>Nat.lt_of_lt_of_le (U g h) hb.size) ((hv 0 (by omega)).under hb U) (g_ hg hb));have x:=q_ (λ(W:World) (hb:Below w.heap.size w W)=>d3_ t.p (Nat.le_trans ok.2.1.size (by decide)) F (.agg (c_ t.p (P 1))) W (λg h=>Nat.lt_of_lt_of_le (U g h) hb.size) ((hv 1 (by omega)).under hb U) (g_ hg hb));have A:=q_ (λ(W:World) (hb:Below w.heap.size w W)=>d3_ t.o (Nat.le_trans ok.2.2.size (by decide)) F (.agg (c_ t.o (P 2))) W (λg h=>Nat.lt_of_lt_of_le (U g h) hb.size) ((hv 2 (by omega)).under hb U) (g_ hg hb));clear ok hv U hg;unfold z_ at v x A ⊢
 cases t with
 | mk s p o=>
 rw[Hy_];have D8:=q_ (And.intro (λh:p.kind=8=>(decide_eq_true h:decide (p.kind=8)=true)) (λh:p.kind≠8=>(decide_eq_false h:decide (p.kind=8)=false)));have V:=q_ (And.intro (λh:s.kind=8\/s.kind=9=>(decide_eq_true h:decide (s.kind=8\/s.kind=9)=true)) (λh:¬(s.kind=8\/s.kind=9)=>(decide_eq_false h:decide (s.kind=8\/s.kind=9)=false)));have y:=q_ (λ(W:World) (g:Nat) (h:SRd 1 IxR W (λb=>b=g) mb_ (some ⟨g,0,none⟩) 7)=>qe_ mb_ o.kind (λb=>b=g) (some ⟨g,0,none⟩) 7 7 W h (by omega));unfold Jp_ at y;obtain⟨d8,a2⟩:=a_ (decide (p.kind=8));obtain⟨d9,a1⟩:=a_ (decide (s.kind=8\/s.kind=9));obtain⟨iv,a3⟩:=a_ (inI mb_ o.kind);rw[a2.o]at D8 ⊢;rw[a1.o]at V ⊢;rw[a3.o]at y ⊢;clear a2 a1 a3;obtain⟨m0,H0⟩:=a_ (K_ s 0);obtain⟨m1,H1⟩:=a_ (K_ p 0);obtain⟨m2,H2⟩:=a_ (K_ o 0);simp only at v x A;rw[H0.o]at v ⊢;rw[H1.o]at x ⊢;rw[H2.o]at A ⊢;clear H0 H1 H2
 cases s with
 | mk q b0 n0 t0 x0 l0=>
 cases p with
 | mk O b1 Z t1 x1 l1=>
 cases o with
 | mk R b2 n2 Y x2 l2=>
 unfold c_ at v x A;rw[o7_];simp only[h_.kind,h_.truth,h_.num,h_.text,h_.extra]at v x A y D8 V ⊢;obtain⟨u0,h0⟩:=a_ (P 0);obtain⟨u1,h1⟩:=a_ (P 1);obtain⟨u2,h2⟩:=a_ (P 2);rw[h0.o]at v ⊢;rw[h1.o]at x ⊢;rw[h2.o]at A ⊢;clear h0 h1 h2;obtain⟨z,Hz⟩:=a_ w.heap.size;obtain⟨k,X⟩:=a_ (w.alloc (.cells #[.int .i64 q,.bool b0,.int .i64 n0,.string t0,.string x0,u0,.int .i64 O,.bool b1,.int .i64 Z,.string t1,.string x1,u1,.int .i64 R,.bool b2,.int .i64 n2,.string Y,.string x2,u2] 41));have HB:=q_ (show Below w.heap.size w k from by rw[<-X.o];exact (Below.refl _ _).alloc (Nat.le_refl _) _);have j:=q_ (show k.heap[z]?=some (.cells #[.int .i64 q,.bool b0,.int .i64 n0,.string t0,.string x0,u0,.int .i64 O,.bool b1,.int .i64 Z,.string t1,.string x1,u1,.int .i64 R,.bool b2,.int .i64 n2,.string Y,.string x2,u2] 41 (0,0)) from by rw[<-X.o,<-Hz.o];exact heap_alloc_new w _);go_enter Tryz.func15,Tryz.ntmps15
 go_upto_region 1 with fail;rw[X.o,Hz.o];clear X;have p0:=(show k.cell? ⟨z,0,none⟩=some (.int .i64 q) from cell_of_heap j.o 0);have p1:=(show k.cell? ⟨z,1,none⟩=some (.bool b0) from cell_of_heap j.o 1);have p2:=(show k.cell? ⟨z,2,none⟩=some (.int .i64 n0) from cell_of_heap j.o 2);have p3:=(show k.cell? ⟨z,3,none⟩=some (.string t0) from cell_of_heap j.o 3);have p4:=(show k.cell? ⟨z,4,none⟩=some (.string x0) from cell_of_heap j.o 4);have p5:=(show k.cell? ⟨z,5,none⟩=some u0 from cell_of_heap j.o 5);have p6:=(show k.cell? ⟨z,6,none⟩=some (.int .i64 O) from cell_of_heap j.o 6);have p7:=(show k.cell? ⟨z,7,none⟩=some (.bool b1) from cell_of_heap j.o 7);have p8:=(show k.cell? ⟨z,8,none⟩=some (.int .i64 Z) from cell_of_heap j.o 8);have p9:=(show k.cell? ⟨z,9,none⟩=some (.string t1) from cell_of_heap j.o 9);have G:=(show k.cell? ⟨z,10,none⟩=some (.string x1) from cell_of_heap j.o 10);have L:=(show k.cell? ⟨z,11,none⟩=some u1 from cell_of_heap j.o 11);have I:=(show k.cell? ⟨z,12,none⟩=some (.int .i64 R) from cell_of_heap j.o 12);have N:=(show k.cell? ⟨z,13,none⟩=some (.bool b2) from cell_of_heap j.o 13);have B:=(show k.cell? ⟨z,14,none⟩=some (.int .i64 n2) from cell_of_heap j.o 14);have D:=(show k.cell? ⟨z,15,none⟩=some (.string Y) from cell_of_heap j.o 15);have C:=(show k.cell? ⟨z,16,none⟩=some (.string x2) from cell_of_heap j.o 16);have E:=(show k.cell? ⟨z,17,none⟩=some u2 from cell_of_heap j.o 17);go_wp2_with fail;refine (v.o _ HB.o).mono ?_;rintro e w2 ⟨rfl,hb⟩;have r:=q_ (HB.o.trans (hb.mono HB.o.size));have f:=q_ ((hb.block _ (b_ j.o)).trans j.o);clear hb p0 p1 p2 p3 p4 p5 p6 p7 p8 p9 G L I N B D C E;have p0:=(show w2.cell? ⟨z,0,none⟩=some (.int .i64 q) from cell_of_heap f.o 0);have p1:=(show w2.cell? ⟨z,1,none⟩=some (.bool b0) from cell_of_heap f.o 1);have p2:=(show w2.cell? ⟨z,2,none⟩=some (.int .i64 n0) from cell_of_heap f.o 2);have p3:=(show w2.cell? ⟨z,3,none⟩=some (.string t0) from cell_of_heap f.o 3);have p4:=(show w2.cell? ⟨z,4,none⟩=some (.string x0) from cell_of_heap f.o 4);have p5:=(show w2.cell? ⟨z,5,none⟩=some u0 from cell_of_heap f.o 5);have p6:=(show w2.cell? ⟨z,6,none⟩=some (.int .i64 O) from cell_of_heap f.o 6);have p7:=(show w2.cell? ⟨z,7,none⟩=some (.bool b1) from cell_of_heap f.o 7);have p8:=(show w2.cell? ⟨z,8,none⟩=some (.int .i64 Z) from cell_of_heap f.o 8);have p9:=(show w2.cell? ⟨z,9,none⟩=some (.string t1) from cell_of_heap f.o 9);have G:=(show w2.cell? ⟨z,10,none⟩=some (.string x1) from cell_of_heap f.o 10);have L:=(show w2.cell? ⟨z,11,none⟩=some u1 from cell_of_heap f.o 11);have I:=(show w2.cell? ⟨z,12,none⟩=some (.int .i64 R) from cell_of_heap f.o 12);have N:=(show w2.cell? ⟨z,13,none⟩=some (.bool b2) from cell_of_heap f.o 13);have B:=(show w2.cell? ⟨z,14,none⟩=some (.int .i64 n2) from cell_of_heap f.o 14);have D:=(show w2.cell? ⟨z,15,none⟩=some (.string Y) from cell_of_heap f.o 15);have C:=(show w2.cell? ⟨z,16,none⟩=some (.string x2) from cell_of_heap f.o 16);have E:=(show w2.cell? ⟨z,17,none⟩=some u2 from cell_of_heap f.o 17)
 cases m0 with
 | false=>
  go_wp2_with fail;go_ret;exact⟨rfl,r.o⟩
 | true=>
  go_wp2_with fail;refine (x.o _ r.o).mono ?_;rintro e m ⟨rfl,hb⟩;have u:=q_ (r.o.trans (hb.mono r.o.size));have d:=q_ ((hb.block _ (b_ f.o)).trans f.o);clear hb p0 p1 p2 p3 p4 p5 p6 p7 p8 p9 G L I N B D C E;have p0:=(show m.cell? ⟨z,0,none⟩=some (.int .i64 q) from cell_of_heap d.o 0);have p1:=(show m.cell? ⟨z,1,none⟩=some (.bool b0) from cell_of_heap d.o 1);have p2:=(show m.cell? ⟨z,2,none⟩=some (.int .i64 n0) from cell_of_heap d.o 2);have p3:=(show m.cell? ⟨z,3,none⟩=some (.string t0) from cell_of_heap d.o 3);have p4:=(show m.cell? ⟨z,4,none⟩=some (.string x0) from cell_of_heap d.o 4);have p5:=(show m.cell? ⟨z,5,none⟩=some u0 from cell_of_heap d.o 5);have p6:=(show m.cell? ⟨z,6,none⟩=some (.int .i64 O) from cell_of_heap d.o 6);have p7:=(show m.cell? ⟨z,7,none⟩=some (.bool b1) from cell_of_heap d.o 7);have p8:=(show m.cell? ⟨z,8,none⟩=some (.int .i64 Z) from cell_of_heap d.o 8);have p9:=(show m.cell? ⟨z,9,none⟩=some (.string t1) from cell_of_heap d.o 9);have G:=(show m.cell? ⟨z,10,none⟩=some (.string x1) from cell_of_heap d.o 10);have L:=(show m.cell? ⟨z,11,none⟩=some u1 from cell_of_heap d.o 11);have I:=(show m.cell? ⟨z,12,none⟩=some (.int .i64 R) from cell_of_heap d.o 12);have N:=(show m.cell? ⟨z,13,none⟩=some (.bool b2) from cell_of_heap d.o 13);have B:=(show m.cell? ⟨z,14,none⟩=some (.int .i64 n2) from cell_of_heap d.o 14);have D:=(show m.cell? ⟨z,15,none⟩=some (.string Y) from cell_of_heap d.o 15);have C:=(show m.cell? ⟨z,16,none⟩=some (.string x2) from cell_of_heap d.o 16);have E:=(show m.cell? ⟨z,17,none⟩=some u2 from cell_of_heap d.o 17)
  cases m1 with
  | false=>
   go_wp2_with fail;go_ret;exact⟨rfl,u.o⟩
  | true=>
   go_wp2_with fail;refine (A.o _ u.o).mono ?_;rintro e i ⟨rfl,hb⟩;have l:=q_ (u.o.trans (hb.mono u.o.size));have a:=q_ ((hb.block _ (b_ d.o)).trans d.o);clear hb p0 p1 p2 p3 p4 p5 p6 p7 p8 p9 G L I N B D C E;have p0:=(show i.cell? ⟨z,0,none⟩=some (.int .i64 q) from cell_of_heap a.o 0);have p1:=(show i.cell? ⟨z,1,none⟩=some (.bool b0) from cell_of_heap a.o 1);have p2:=(show i.cell? ⟨z,2,none⟩=some (.int .i64 n0) from cell_of_heap a.o 2);have p3:=(show i.cell? ⟨z,3,none⟩=some (.string t0) from cell_of_heap a.o 3);have p4:=(show i.cell? ⟨z,4,none⟩=some (.string x0) from cell_of_heap a.o 4);have p5:=(show i.cell? ⟨z,5,none⟩=some u0 from cell_of_heap a.o 5);have p6:=(show i.cell? ⟨z,6,none⟩=some (.int .i64 O) from cell_of_heap a.o 6);have p7:=(show i.cell? ⟨z,7,none⟩=some (.bool b1) from cell_of_heap a.o 7);have p8:=(show i.cell? ⟨z,8,none⟩=some (.int .i64 Z) from cell_of_heap a.o 8);have p9:=(show i.cell? ⟨z,9,none⟩=some (.string t1) from cell_of_heap a.o 9);have G:=(show i.cell? ⟨z,10,none⟩=some (.string x1) from cell_of_heap a.o 10);have L:=(show i.cell? ⟨z,11,none⟩=some u1 from cell_of_heap a.o 11);have I:=(show i.cell? ⟨z,12,none⟩=some (.int .i64 R) from cell_of_heap a.o 12);have N:=(show i.cell? ⟨z,13,none⟩=some (.bool b2) from cell_of_heap a.o 13);have B:=(show i.cell? ⟨z,14,none⟩=some (.int .i64 n2) from cell_of_heap a.o 14);have D:=(show i.cell? ⟨z,15,none⟩=some (.string Y) from cell_of_heap a.o 15);have C:=(show i.cell? ⟨z,16,none⟩=some (.string x2) from cell_of_heap a.o 16);have E:=(show i.cell? ⟨z,17,none⟩=some u2 from cell_of_heap a.o 17)
   cases m2 with
   | false=>
    go_wp2_with fail;go_ret;exact⟨rfl,l.o⟩
   | true=>
    by_cases J:O=8
    ·have e1:(O != 8)=false:=by simpa using J
     have E1:=q_ (D8.o.1 J);clear J;by_cases M:q=8
     ·have e0:(q != 8)=false:=by simpa using M
      have E0:=q_ (V.o.1 (.inl M));clear M;have a4:(i.alloc (.cells #[.int .i64 8,.int .i64 9,.int .i64 10,.int .i64 4,.int .i64 1,.int .i64 2,.int .i64 3] 3)).cell? ⟨z,12,none⟩=some (.int .i64 R):=cell_of_heap ((Below.heap_alloc _ _ _ (b_ a.o)).trans a.o) 12;have a0:=q_ (y.o (i.alloc (.cells #[.int .i64 8,.int .i64 9,.int .i64 10,.int .i64 4,.int .i64 1,.int .i64 2,.int .i64 3] 3)) i.heap.size (u3_ i));clear D8 V y;go_wp2_with fail;refine a0.o.mono ?_;rintro e w5 ⟨rfl,a5⟩;subst w5;go_wp2_with fail;go_ret;exact⟨by rw[E0.o,E1.o];rfl,l.o.alloc (by have:=l.o.size;omega) _⟩
     ·have e0:(q != 8)=true:=bne_iff_ne.2 M;by_cases S:q=9
      ·have e9:(q != 9)=false:=by simpa using S
       have E0:=q_ (V.o.1 (.inr S));clear M S;have a4:(i.alloc (.cells #[.int .i64 8,.int .i64 9,.int .i64 10,.int .i64 4,.int .i64 1,.int .i64 2,.int .i64 3] 3)).cell? ⟨z,12,none⟩=some (.int .i64 R):=cell_of_heap ((Below.heap_alloc _ _ _ (b_ a.o)).trans a.o) 12;have a0:=q_ (y.o (i.alloc (.cells #[.int .i64 8,.int .i64 9,.int .i64 10,.int .i64 4,.int .i64 1,.int .i64 2,.int .i64 3] 3)) i.heap.size (u3_ i));clear D8 V y;go_wp2_with fail;refine a0.o.mono ?_;rintro e w5 ⟨rfl,a5⟩;subst w5;go_wp2_with fail;go_ret;exact⟨by rw[E0.o,E1.o];rfl,l.o.alloc (by have:=l.o.size;omega) _⟩
      ·have e9:(q != 9)=true:=bne_iff_ne.2 S;have E0:=q_ (V.o.2 (by omega));clear M S;go_wp2_with fail;go_ret;exact⟨by rw[E0.o,E1.o];rfl,l.o⟩
    ·have e1:(O != 8)=true:=bne_iff_ne.2 J;have E1:=q_ (D8.o.2 J);clear J;go_wp2_with fail;go_ret;exact⟨by rw[E1.o];rfl,l.o⟩
end
end Go.Proofs.YtefhfadjajcmkaaGreatDoor
