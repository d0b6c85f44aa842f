/- Lists of structs in memory, of whatever element: they read; they lie in a row of their own. -/
import Derived.Test.YtefhfadjajcmkaaGreatDoorK4
import Derived.Test.YtefhfadjajcmkaaGreatDoorK7
import Derived.Test.YtefhfadjajcmkaaGreatDoorK0
set_option linter.unusedVariables false
set_option linter.unusedSimpArgs false
set_option maxRecDepth 100000
set_option maxHeartbeats 8000000
namespace Go.Proofs.YtefhfadjajcmkaaGreatDoor
open Go
open Go.Lib (hid cell_of_heap)
structure PreC {α : Type} (o:α → α → Int):Prop where
 val:∀a b,o a b = -1∨o a b=0∨o a b=1
 anti:∀a b,o b a = -o a b
 trans:∀a b d,o a b≤0→o b d≤0→o a d≤0
 zero:∀a b d,o a b=0→o a d=o b d
theorem LinC.pre {α K:Type} {c:K→K→Int} (h:LinC c) (k:α → K):PreC (λa b=>c (k a) (k b)) where
 val a b:=h.val _ _
 anti a b:=h.anti _ _
 trans a b d:=h.trans _ _ _
 zero a b d h0:=by
  have:=(h.eqv _ _).1 h0
  show c (k a) (k d)=c (k b) (k d)
  rw[this]
section
variable {α : Type} {o:α → α → Int}
theorem PreC.refl (h:PreC o) (a:α):o a a=0:=by have:=h.anti a a;omega
theorem PreC.zero' (h:PreC o) {a b:α} (d:α) (h0:o a b=0):o d a=o d b:=by
 have:=h.zero a b d h0
 have:=h.anti a d
 have:=h.anti b d
 omega
theorem PreC.lt_trans (h:PreC o) {a b d:α} (h1:o a b<0) (h2:o b d≤0):o a d<0:=by
 have h3:=h.trans a b d (by omega) h2
 rcases Int.lt_or_eq_of_le h3 with h4 | h4
 ·exact h4
 ·have h5:=h.zero' b h4
  have:=h.anti a b
  omega
theorem PreC.trans_lt (h:PreC o) {a b d:α} (h1:o a b≤0) (h2:o b d<0):o a d<0:=by
 have h3:=h.trans a b d h1 (by omega)
 rcases Int.lt_or_eq_of_le h3 with h4 | h4
 ·exact h4
 ·have h5:=h.zero a d b h4
  have:=h.anti b d
  have:=h.anti a b
  omega
abbrev Rise (o:α → α → Int) (l:List α):Prop:=l.Pairwise λa b=>o a b<0
theorem rise_one (h:PreC o):∀{l m:List α},Rise o l→Rise o m→(∀x,x∈l↔x∈m)→l=m
 | [],[],_,_,_=>rfl
 | [],b::m,_,_,he=>absurd ((he b).2 List.mem_cons_self) (by simp)
 | a::l,[],_,_,he=>absurd ((he a).1 List.mem_cons_self) (by simp)
 | a::l,b::m,hl,hm,he=>by
  obtain⟨la,ll⟩:=List.pairwise_cons.1 hl
  obtain⟨ma,mm⟩:=List.pairwise_cons.1 hm
  have hab:a=b:=by
   rcases List.mem_cons.1 ((he a).1 List.mem_cons_self) with e | e
   ·exact e
   ·rcases List.mem_cons.1 ((he b).2 List.mem_cons_self) with e2 | e2
    ·exact e2.symm
    ·have h1:=ma a e
     have h2:=la b e2
     have:=h.anti a b
     omega
  subst hab
  congr 1
  refine rise_one h ll mm λx=>?_
  constructor
  ·intro hx
   rcases List.mem_cons.1 ((he x).1 (List.mem_cons_of_mem _ hx)) with e | e
   ·subst e
    have:=la x hx
    have:=h.refl x
    omega
   ·exact e
  ·intro hx
   rcases List.mem_cons.1 ((he x).2 (List.mem_cons_of_mem _ hx)) with e | e
   ·subst e
    have:=ma x hx
    have:=h.refl x
    omega
   ·exact e
def spotR (o:α → α → Int) (v:α):List α → Nat→Nat
 | _,0=>0
 | l,k+1=>match l[k]? with
  | some x=>if 0<o x v then spotR o v l k else k+1
  | none=>k+1
def insR (o:α → α → Int) (l:List α) (v:α):List α:=
 let k:=spotR o v l l.length
 if 0<k∧(∃x,l[k-1]?=some x∧o x v=0) then l else l.take k++v::l.drop k
theorem spotR_le (v:α) (l:List α) (k:Nat):spotR o v l k≤k:=by
 induction k with
 | zero=>exact Nat.le_refl _
 | succ k ih=>
  unfold spotR
  split
  ·split
   ·omega
   ·omega
  ·omega
theorem spotR_above (v:α) (l:List α) (k:Nat):∀j x,spotR o v l k≤j→j<k→l[j]?=some x→0<o x v:=by
 induction k with
 | zero=>intro j x _ h;omega
 | succ k ih=>
  intro j x h1 h2 hx
  unfold spotR at h1
  by_cases e:j=k
  ·subst e
   rw[hx]at h1
   simp only at h1
   split at h1
   ·assumption
   ·omega
  ·split at h1
   ·split at h1
    ·exact ih j x h1 (by omega) hx
    ·omega
   ·omega
theorem spotR_below (v:α) (l:List α) (k:Nat):∀x,0<spotR o v l k→l[spotR o v l k-1]?=some x→o x v≤0:=by
 induction k with
 | zero=>intro x h;unfold spotR at h;omega
 | succ k ih=>
  intro x
  unfold spotR
  split
  ·rename_i y hy
   split
   ·exact ih x
   ·intro _ h
    rw[Nat.add_sub_cancel,hy]at h
    injection h with h
    subst h
    omega
  ·rename_i hy
   intro _ h
   rw[Nat.add_sub_cancel,hy]at h
   cases h
theorem insR_mem {l:List α} {v:α} (he:∀a,a∈l→o a v=0→a=v) (x:α):x∈insR o l v↔x∈l∨x=v:=by
 unfold insR
 simp only
 split
 ·rename_i h
  obtain⟨_,y,hy,hy0⟩:=h
  have hm:=List.mem_of_getElem? hy
  have:=he y hm hy0
  subst this
  constructor
  ·exact .inl
  ·rintro (h | h)
   ·exact h
   ·rw[h];exact hm
 ·rw[List.mem_append,List.mem_cons]
  constructor
  ·rintro (h | h | h)
   ·exact .inl (List.mem_of_mem_take h)
   ·exact .inr h
   ·exact .inl (List.mem_of_mem_drop h)
  ·rintro (h | h)
   ·have:x∈l.take (spotR o v l l.length)++l.drop (spotR o v l l.length):=by rw[List.take_append_drop];exact h
    rcases List.mem_append.1 this with h | h
    ·exact .inl h
    ·exact .inr (.inr h)
   ·exact .inr (.inl h)
theorem insR_rise (h:PreC o) {l:List α} {v:α} (hl:Rise o l):Rise o (insR o l v):=by
 unfold insR
 simp only
 split
 ·exact hl
 ·rename_i hno
  have hk:=spotR_le (o:=o) v l l.length
  have hlt:∀x,x∈l.take (spotR o v l l.length)→o x v<0:=by
   intro x hx
   obtain⟨i,hi,rfl⟩:=List.mem_take_iff_getElem.1 hx
   have hk0:0<spotR o v l l.length:=by omega
   have hkl:spotR o v l l.length-1<l.length:=by omega
   have h1:=spotR_below (o:=o) v l l.length _ hk0 (List.getElem?_eq_getElem hkl)
   have h2:o l[spotR o v l l.length-1] v<0:=by
    rcases Int.lt_or_eq_of_le h1 with h1 | h1
    ·exact h1
    ·exact absurd ⟨hk0,_,List.getElem?_eq_getElem hkl,h1⟩ hno
   by_cases e:i=spotR o v l l.length-1
   ·subst e;exact h2
   ·exact h.lt_trans (List.pairwise_iff_getElem.1 hl i _ (by omega) hkl (by omega)) (by omega)
  have hgt:∀x,x∈l.drop (spotR o v l l.length)→o v x<0:=by
   intro x hx
   obtain⟨i,hi,rfl⟩:=List.mem_drop_iff_getElem.1 hx
   have:=spotR_above (o:=o) v l l.length _ _ (Nat.le_add_right _ i) (by omega) (List.getElem?_eq_getElem (by omega))
   have:=h.anti v l[spotR o v l l.length+i]
   omega
  refine List.pairwise_append.2 ⟨List.Pairwise.sublist (List.take_sublist _ _) hl,List.pairwise_cons.2 ⟨hgt,List.Pairwise.sublist (List.drop_sublist _ _) hl⟩,?_⟩
  intro a ha b hb
  rcases List.mem_cons.1 hb with e | e
  ·subst e;exact hlt a ha
  ·exact h.lt_trans (hlt a ha) (by have:=hgt b e;omega)
def loadR (o:α → α → Int) (l:List α):List α:=l.foldl (insR o) []
theorem loadR_snoc (l:List α) (v:α):loadR o (l++[v])=insR o (loadR o l) v:=by unfold loadR;rw[List.foldl_append];rfl
theorem loadR_rise_mem (h:PreC o) {l:List α} (he:∀a,a∈l→∀b,b∈l→o a b=0→a=b) (n:Nat):Rise o (loadR o (l.take n))∧∀x,x∈loadR o (l.take n)↔x∈l.take n:=by
 induction n with
 | zero=>exact⟨List.Pairwise.nil,λx=>Iff.rfl⟩
 | succ n ih=>
  by_cases hn:n<l.length
  ·rw[List.take_succ_eq_append_getElem hn,loadR_snoc]
   refine⟨insR_rise h ih.1,λx=>?_⟩
   rw[insR_mem (λa ha=>he a (List.mem_of_mem_take ((ih.2 a).1 ha)) _ (List.getElem_mem hn)),ih.2 x,List.mem_append,List.mem_singleton]
  ·rw[List.take_of_length_le (by omega)]
   rw[List.take_of_length_le (by omega)]at ih
   exact ih
theorem loadR_is (h:PreC o) {l:List α} (he:∀a,a∈l→∀b,b∈l→o a b=0→a=b):Rise o (loadR o l)∧∀x,x∈loadR o l↔x∈l:=by
 have:=loadR_rise_mem h he l.length
 rwa [List.take_length]at this
def cptR (o:α → α → Int) (p:α):List α → List α
 | []=>[]
 | a::r=>if o a p=0 then cptR o a r else a::cptR o a r
def cpt (o:α → α → Int):List α → List α
 | []=>[]
 | a::r=>a::cptR o a r
theorem cptR_snoc (p:α) (r:List α) (x:α):cptR o p (r++[x])=cptR o p r++(if o x (r.getLastD p)=0 then [] else [x]):=by
 induction r generalizing p with
 | nil=>rfl
 | cons a r ih=>
  rw[List.cons_append,cptR,cptR,ih a,List.getLastD_cons]
  split<;>simp
theorem cptR_is (h:PreC o) (p:α) (r:List α) (hs:(p::r).Pairwise λa b=>¬o b a<0) (he:∀a,a∈p::r→∀b,b∈p::r→o a b=0→a=b):Rise o (p::cptR o p r)∧∀x,x∈p::cptR o p r↔x∈p::r:=by
 induction r generalizing p with
 | nil=>exact⟨List.pairwise_cons.2 ⟨λ_ hx=>(by cases hx),List.Pairwise.nil⟩,λx=>Iff.rfl⟩
 | cons a r ih=>
  obtain⟨hp,hs'⟩:=List.pairwise_cons.1 hs
  have ih:=ih a hs' (λu hu v hv=>he u (List.mem_cons_of_mem _ hu) v (List.mem_cons_of_mem _ hv))
  unfold cptR
  split
  ·rename_i h0
   have:=he a (by simp) p (by simp) h0
   subst this
   refine⟨ih.1,λx=>(ih.2 x).trans ?_⟩
   simp
  ·rename_i h0
   have hpa:=hp a List.mem_cons_self
   have hap:=h.anti a p
   have hpa2:o p a<0:=by omega
   refine⟨List.pairwise_cons.2 ⟨λx hx=>?_,ih.1⟩,λx=>?_⟩
   ·rcases List.mem_cons.1 hx with e | e
    ·subst e;exact hpa2
    ·exact h.lt_trans hpa2 (by have:=(List.pairwise_cons.1 ih.1).1 x e;omega)
   ·rw[List.mem_cons,ih.2 x]
    simp
theorem cpt_load (h:PreC o) {l m:List α} (hp:m.Perm l) (hs:m.Pairwise λa b=>¬o b a<0) (he:∀a,a∈l→∀b,b∈l→o a b=0→a=b):cpt o m=loadR o l:=by
 have hl:=loadR_is h he
 cases m with
 | nil=>
  have:=hp.symm.eq_nil
  subst this
  rfl
 | cons p r=>
  have hm:=cptR_is h p r hs (λa ha b hb=>he a (hp.mem_iff.1 ha) b (hp.mem_iff.1 hb))
  refine rise_one h hm.1 hl.1 λx=>?_
  rw[hl.2 x]
  exact (hm.2 x).trans hp.mem_iff
end
structure Trip where
 s:Val
 p:Val
 o:Val
def Trip.get (t:Trip) (i:Nat):Val:=if i=0 then t.s else if i=1 then t.p else t.o
structure Way where
 i:Nat
 j:Nat
 k:Nat
def Way.get (w:Way) (n:Nat):Nat:=if n=0 then w.i else if n=1 then w.j else w.k
def wayN (n:Nat):Way:=if n=0 then ⟨0,1,2⟩ else if n=1 then ⟨0,2,1⟩ else if n=2 then ⟨1,0,2⟩ else if n=3 then ⟨1,2,0⟩ else if n=4 then ⟨2,0,1⟩ else ⟨2,1,0⟩
def Way.Ok (w:Way):Prop:=(w.i=0∨w.j=0∨w.k=0)∧(w.i=1∨w.j=1∨w.k=1)∧(w.i=2∨w.j=2∨w.k=2)
theorem wayN_ok (n:Nat):(wayN n).Ok:=by
 unfold wayN Way.Ok
 repeat' split
 all_goals simp
def along (w:Way) (a b:Trip):Int:=thenC (ordV (a.get w.i) (b.get w.i)) (thenC (ordV (a.get w.j) (b.get w.j)) (ordV (a.get w.k) (b.get w.k)))
theorem along_pre (w:Way):PreC (along w):=(cmpKey_lin.prod (cmpKey_lin.prod cmpKey_lin)).pre λt:Trip=>(keyO (t.get w.i),keyO (t.get w.j),keyO (t.get w.k))
theorem ordV_pre:PreC ordV:=cmpKey_lin.pre keyO
structure ScalT (t:Trip):Prop where
 s:ScalV t.s
 p:ScalV t.p
 o:ScalV t.o
theorem ScalT.get {t:Trip} (h:ScalT t) (i:Nat):ScalV (t.get i):=by
 unfold Trip.get
 split
 ·exact h.s
 ·split
  ·exact h.p
  ·exact h.o
theorem thenC_eq0 {x y:Int}:thenC x y=0↔x=0∧y=0:=by
 unfold thenC
 split<;>omega
theorem along_zero {w:Way} {a b:Trip}:along w a b=0↔ordV (a.get w.i) (b.get w.i)=0∧ordV (a.get w.j) (b.get w.j)=0∧ordV (a.get w.k) (b.get w.k)=0:=by
 unfold along
 rw[thenC_eq0,thenC_eq0]
theorem trip_ext {w:Way} (hw:w.Ok) {a b:Trip} (h1:a.get w.i=b.get w.i) (h2:a.get w.j=b.get w.j) (h3:a.get w.k=b.get w.k):a=b:=by
 have h:∀n,n=0∨n=1∨n=2→a.get n=b.get n:=by
  unfold Way.Ok at hw
  intro n hn
  rcases hn with rfl | rfl | rfl
  ·rcases hw.1 with e | e | e
   ·rw[e]at h1;exact h1
   ·rw[e]at h2;exact h2
   ·rw[e]at h3;exact h3
  ·rcases hw.2.1 with e | e | e
   ·rw[e]at h1;exact h1
   ·rw[e]at h2;exact h2
   ·rw[e]at h3;exact h3
  ·rcases hw.2.2 with e | e | e
   ·rw[e]at h1;exact h1
   ·rw[e]at h2;exact h2
   ·rw[e]at h3;exact h3
 have e1:=h 0 (by simp)
 have e2:=h 1 (by simp)
 have e3:=h 2 (by simp)
 cases a
 cases b
 simp only[Trip.get]at e1 e2 e3
 simp at e1 e2 e3
 rw[e1,e2,e3]
theorem along_eq {w:Way} (hw:w.Ok) {a b:Trip} (ha:ScalT a) (hb:ScalT b) (h:along w a b=0):a=b:=by
 obtain⟨h1,h2,h3⟩:=along_zero.1 h
 exact trip_ext hw (ordV_eq (ha.get _) (hb.get _) h1) (ordV_eq (ha.get _) (hb.get _) h2) (ordV_eq (ha.get _) (hb.get _) h3)
noncomputable def mayT (t:Trip):Bool:=mayV t.s 0&&(mayV t.p 0&&(mayV t.o 0&&(decide (t.p.kind=8)&&(decide (t.s.kind=8∨t.s.kind=9)&&decide (t.o.kind=8∨t.o.kind=9∨t.o.kind=10∨t.o.kind=4∨t.o.kind=1∨t.o.kind=2∨t.o.kind=3)))))
theorem narrow_is {α : Type} (c:α → Int) (l:List α) (hm:l.Pairwise λx y=>c x≤c y):l.countP (λx=>!decide (0≤c x))≤l.countP (λx=>!decide (0<c x))∧l.countP (λx=>!decide (0<c x))≤l.length ∧
    (l.take (l.countP λx=>!decide (0<c x))).drop (l.countP λx=>!decide (0≤c x))=l.filter λx=>decide (c x=0):=by
 induction l with
 | nil=>exact⟨Nat.le_refl _,Nat.le_refl _,rfl⟩
 | cons x r ih=>
  obtain⟨hx,hr⟩:=List.pairwise_cons.1 hm
  obtain⟨i1,i2,i3⟩:=ih hr
  rcases Int.lt_trichotomy (c x) 0 with h | h | h
  ·have e1:(!decide (0<c x))=true:=by simp;omega
   have e2:(!decide (0≤c x))=true:=by simp;omega
   rw[List.countP_cons_of_pos (p:=λx=>!decide (0<c x)) (by exact e1),List.countP_cons_of_pos (p:=λx=>!decide (0≤c x)) (by exact e2),List.take_succ_cons,List.drop_succ_cons,i3,List.filter_cons_of_neg (by simp;omega)]
   exact⟨by omega,by simp;omega,rfl⟩
  ·have e1:(!decide (0<c x))=true:=by simp;omega
   have e2:(!decide (0≤c x))=false:=by simp;omega
   have h0:r.countP (λy=>!decide (0≤c y))=0:=by
    rw[List.countP_eq_zero]
    intro y hy
    have:=hx y hy
    simp
    omega
   rw[h0]at i3
   rw[List.countP_cons_of_pos (p:=λx=>!decide (0<c x)) (by exact e1),List.countP_cons_of_neg (p:=λx=>!decide (0≤c x)) (by rw[e2];exact Bool.false_ne_true),h0,List.take_succ_cons,List.filter_cons_of_pos (by simp;omega),←i3]
   exact⟨by omega,by simp;omega,rfl⟩
  ·have e1:(!decide (0<c x))=false:=by simp;omega
   have e2:(!decide (0≤c x))=false:=by simp;omega
   have h0:r.countP (λy=>!decide (0≤c y))=0:=by
    rw[List.countP_eq_zero]
    intro y hy
    have:=hx y hy
    simp
    omega
   have h1:r.countP (λy=>!decide (0<c y))=0:=by
    rw[List.countP_eq_zero]
    intro y hy
    have:=hx y hy
    simp
    omega
   rw[List.countP_cons_of_neg (p:=λx=>!decide (0<c x)) (by rw[e1];exact Bool.false_ne_true),List.countP_cons_of_neg (p:=λx=>!decide (0≤c x)) (by rw[e2];exact Bool.false_ne_true),h0,h1]
   refine⟨Nat.le_refl _,Nat.zero_le _,?_⟩
   symm
   rw[List.take_zero,List.drop_zero,List.filter_eq_nil_iff]
   intro y hy
   rcases List.mem_cons.1 hy with e | e
   ·subst e;simp;omega
   ·have:=hx y e;simp;omega
theorem countP_range {α : Type} (f:α → Bool) (l:List α) (g:Nat→Bool) (hg:∀i x,l[i]?=some x→g i=f x):(List.range l.length).countP g=l.countP f:=by
 have h:(List.range l.length).map g=l.map f:=by
  apply List.ext_getElem?
  intro i
  rw[List.getElem?_map,List.getElem?_map]
  rcases Nat.lt_or_ge i l.length with h | h
  ·rw[List.getElem?_range h,List.getElem?_eq_getElem h]
   exact congrArg some (hg i _ (List.getElem?_eq_getElem h))
  ·rw[List.getElem?_eq_none (by simpa using h),List.getElem?_eq_none h];rfl
 have e1:=List.countP_map (p:=id) (f:=g) (l:=List.range l.length)
 have e2:=List.countP_map (p:=id) (f:=f) (l:=l)
 rw[h]at e1
 exact e1.symm.trans e2
structure IxOf (w:Way) (T:List Trip) (ix:List Nat):Prop where
 perm:ix.Perm (List.range T.length)
 rise:ix.Pairwise λa b=>∀s t,T[a]?=some s→T[b]?=some t→along w s t<0
theorem IxOf.lt {w:Way} {T:List Trip} {ix:List Nat} (h:IxOf w T ix) {n:Nat} (hn:n∈ix):n<T.length:=List.mem_range.1 (h.perm.mem_iff.1 hn)
theorem IxOf.len {w:Way} {T:List Trip} {ix:List Nat} (h:IxOf w T ix):ix.length=T.length:=by rw[h.perm.length_eq,List.length_range]
theorem IxOf.nodup {w:Way} {T:List Trip} {ix:List Nat} (h:IxOf w T ix):ix.Nodup:=h.perm.nodup_iff.2 List.nodup_range
theorem ix_of {w:Way} (hw:w.Ok) {T:List Trip} (hT:∀t,t∈T→ScalT t) (hr:T.Nodup) {ix:List Nat} (hp:ix.Perm (List.range T.length)) (hs:ix.Pairwise λa b=>∀s t,T[a]?=some s→T[b]?=some t→¬along w t s<0):IxOf w T ix:=by
 refine⟨hp,?_⟩
 have hn:ix.Nodup:=hp.nodup_iff.2 List.nodup_range
 refine (hs.and hn).imp fun {a b} h s t hs ht=>?_
 have h1:=h.1 s t hs ht
 have h2:=(along_pre w).anti s t
 rcases (along_pre w).val s t with h3 | h3 | h3
 ·omega
 ·have:=along_eq hw (hT s (List.mem_of_getElem? hs)) (hT t (List.mem_of_getElem? ht)) h3
  subst this
  obtain⟨la,ea⟩:=List.getElem?_eq_some_iff.1 hs
  obtain⟨lb,eb⟩:=List.getElem?_eq_some_iff.1 ht
  exfalso
  rcases Nat.lt_or_gt_of_ne h.2 with hlt | hlt
  ·exact List.pairwise_iff_getElem.1 hr a b la lb hlt (ea.trans eb.symm)
  ·exact List.pairwise_iff_getElem.1 hr b a lb la hlt (eb.trans ea.symm)
 ·omega
open Classical in
noncomputable def fitsT (p t:Trip):Bool:=
 decide (∀i,i<3→(((p.get i).kind≠0→t.get i=p.get i)∧((p.get i).kind=0→∀k,k<i→(p.get k).kind=0→(p.get i).text≠⟨#[]⟩→(p.get k).text=(p.get i).text→t.get i=t.get k)))
open Classical in
theorem fitsT_iff {p t:Trip}:fitsT p t=true↔∀i,i<3→(((p.get i).kind≠0→t.get i=p.get i)∧((p.get i).kind=0→∀k,k<i→(p.get k).kind=0→(p.get i).text≠⟨#[]⟩→(p.get k).text=(p.get i).text→t.get i=t.get k)):=by
 unfold fitsT
 exact⟨λh=>@of_decide_eq_true _ _ h,λh=>@decide_eq_true _ _ h⟩
theorem fitsT_ord {p t:Trip} (h:fitsT p t=true) (i:Nat) (hi:i<3) (hk:(p.get i).kind≠0):ordV (t.get i) (p.get i)=0:=by
 have:=(fitsT_iff.1 h i hi).1 hk
 rw[this]
 exact ordV_refl _
structure NearOf (T:List Trip) (p:Trip) (l:List Nat):Prop where
 lt:∀n,n∈l→n<T.length
 nodup:l.Nodup
 all:∀n t,T[n]?=some t→fitsT p t=true→n∈l
structure MidOf (w:Way) (T:List Trip) (p:Trip) (d:Nat) (l:List Nat):Prop where
 lt:∀n,n∈l→n<T.length
 rise:l.Pairwise λa b=>∀s t,T[a]?=some s→T[b]?=some t→along w s t<0
 nodup:l.Nodup
 same:∀n t,n∈l→T[n]?=some t→∀e,e<d→ordV (t.get (w.get e)) (p.get (w.get e))=0
 bound:∀e,e<d→(p.get (w.get e)).kind≠0
 all:∀n t,T[n]?=some t→fitsT p t=true→n∈l
theorem MidOf.start {w:Way} {T:List Trip} {ix:List Nat} (h:IxOf w T ix) (p:Trip):MidOf w T p 0 ix:=
 ⟨λ_ hn=>h.lt hn,h.rise,h.nodup,λ_ _ _ _ e he=>absurd he (by omega),λe he=>absurd he (by omega),λn t hn _=>h.perm.mem_iff.2 (List.mem_range.2 (List.getElem?_eq_some_iff.1 hn).1)⟩
theorem MidOf.near {w:Way} {T:List Trip} {p:Trip} {d:Nat} {l:List Nat} (h:MidOf w T p d l):NearOf T p l:=⟨h.lt,h.nodup,h.all⟩
theorem Way.Ok.lt {w:Way} (h:w.Ok) (e:Nat):w.get e<3:=by
 unfold Way.Ok at h
 unfold Way.get
 repeat' split
 all_goals omega
theorem MidOf.mono {w:Way} {T:List Trip} {p:Trip} {d:Nat} {l:List Nat} (h:MidOf w T p d l) (hd:d<3) (c:Nat→Int) (hc:∀n t,T[n]?=some t→c n=ordV (t.get (w.get d)) (p.get (w.get d))):l.Pairwise λa b=>c a≤c b:=by
 have hall:=h.rise.and (List.pairwise_iff_forall_sublist.2 fun {a b} hab=>(⟨hab.subset (by simp),hab.subset (by simp)⟩:a∈l∧b∈l))
 refine hall.imp fun {a b} hab=>?_
 obtain⟨h1,ha,hb⟩:=hab
 have la:=h.lt a ha
 have lb:=h.lt b hb
 have ea:=List.getElem?_eq_getElem la
 have eb:=List.getElem?_eq_getElem lb
 have h1:=h1 _ _ ea eb
 rw[hc a _ ea,hc b _ eb]
 have same:∀e,e<d→ordV (T[a].get (w.get e)) (T[b].get (w.get e))=0:=λe he=>by
  have s1:=h.same a _ ha ea e he
  have s2:=h.same b _ hb eb e he
  rw[ordV_pre.zero _ _ _ s1]
  have:=ordV_anti (T[b].get (w.get e)) (p.get (w.get e))
  omega
 have hle:ordV (T[a].get (w.get d)) (T[b].get (w.get d))≤0:=by
  unfold along at h1
  have g0:w.get 0=w.i:=rfl
  have g1:w.get 1=w.j:=rfl
  have g2:w.get 2=w.k:=rfl
  rcases (show d=0∨d=1∨d=2 by omega) with rfl | rfl | rfl
  ·rw[g0]
   by_cases h0:ordV (T[a].get w.i) (T[b].get w.i)=0
   ·omega
   ·rw[thenC_ne h0]at h1;omega
  ·have s0:=same 0 (by omega)
   rw[g0]at s0
   rw[s0,thenC_zero]at h1
   rw[g1]
   by_cases h0:ordV (T[a].get w.j) (T[b].get w.j)=0
   ·omega
   ·rw[thenC_ne h0]at h1;omega
  ·have s0:=same 0 (by omega)
   have s1:=same 1 (by omega)
   rw[g0]at s0
   rw[g1]at s1
   rw[s0,s1,thenC_zero,thenC_zero]at h1
   rw[g2]
   omega
 generalize T[a].get (w.get d)=x at hle ⊢
 generalize T[b].get (w.get d)=y at hle ⊢
 generalize p.get (w.get d)=z
 rcases ordV_val x z with e1 | e1 | e1
 ·rcases ordV_val y z with e2 | e2 | e2<;>omega
 ·rcases ordV_val y z with e2 | e2 | e2
  ·have:=ordV_pre.trans_lt hle (show ordV y z<0 by omega)
   omega
  ·omega
  ·omega
 ·rcases ordV_val y z with e2 | e2 | e2
  ·have:=ordV_pre.trans_lt hle (show ordV y z<0 by omega)
   omega
  ·have:=ordV_pre.trans x y z hle (by omega)
   omega
  ·omega
theorem MidOf.next {w:Way} {T:List Trip} {p:Trip} {d:Nat} {l:List Nat} (h:MidOf w T p d l) (hw:w.Ok) (hk:(p.get (w.get d)).kind≠0) (c:Nat→Int) (hc:∀n t,T[n]?=some t→c n=ordV (t.get (w.get d)) (p.get (w.get d))) :
    MidOf w T p (d+1) (l.filter λn=>decide (c n=0)):=by
 have hsub:(l.filter λn=>decide (c n=0)).Sublist l:=List.filter_sublist
 refine⟨λn hn=>h.lt n (hsub.subset hn),h.rise.sublist hsub,h.nodup.sublist hsub,λn t hn ht e he=>?_,λe he=>?_,λn t ht hf=>?_⟩
 ·by_cases e0:e=d
  ·subst e0
   rw[←hc n t ht]
   exact of_decide_eq_true (List.mem_filter.1 hn).2
  ·exact h.same n t (hsub.subset hn) ht e (by omega)
 ·by_cases e0:e=d
  ·subst e0;exact hk
  ·exact h.bound e (by omega)
 ·refine List.mem_filter.2 ⟨h.all n t ht hf,decide_eq_true ?_⟩
  rw[hc n t ht]
  exact fitsT_ord hf _ (hw.lt d) hk
theorem near_fits {T:List Trip} {p:Trip} {l m:List Nat} (h:NearOf T p l) (f:Nat→Bool) (hf:∀n t,T[n]?=some t→f n=fitsT p t) (hp:m.Perm (l.filter f)) (hs:m.Pairwise λa b=>a≤b):m=(List.range T.length).filter f:=by
 have hn:m.Nodup:=hp.nodup_iff.2 (h.nodup.sublist List.filter_sublist)
 refine rise_one (o:=λa b:Nat=>cmpI a b) (cmpI_lin.pre λn:Nat=>(n:Int)) ?_ ?_ λx=>?_
 ·refine (hs.and hn).imp fun {a b} h=>?_
  show cmpI (a:Int) (b:Int)<0
  unfold cmpI
  rw[if_pos (by omega)]
  omega
 ·refine (List.pairwise_lt_range.sublist List.filter_sublist).imp fun {a b} h=>?_
  show cmpI (a:Int) (b:Int)<0
  unfold cmpI
  rw[if_pos (by omega)]
  omega
 ·rw[hp.mem_iff,List.mem_filter,List.mem_filter,List.mem_range]
  constructor
  ·rintro⟨h1,h2⟩
   exact⟨h.lt x h1,h2⟩
  ·rintro⟨h1,h2⟩
   exact⟨h.all x _ (List.getElem?_eq_getElem h1) (by rw[←hf x _ (List.getElem?_eq_getElem h1)];exact h2),h2⟩
theorem filter_get {α : Type} (f:α → Bool) (T:List α) (g:Nat→Bool) (hg:∀n t,T[n]?=some t→g n=f t):((List.range T.length).filter g).filterMap (λn=>T[n]?)=T.filter f:=by
 have h:∀n,n≤T.length→((List.range n).filter g).filterMap (λn=>T[n]?)=(T.take n).filter f:=by
  intro n
  induction n with
  | zero=>intro _;rfl
  | succ n ih=>
   intro hn
   have hl:n<T.length:=by omega
   rw[List.range_succ,List.filter_append,List.filterMap_append,ih (by omega),List.take_succ_eq_append_getElem hl,List.filter_append]
   congr 1
   have e:=hg n _ (List.getElem?_eq_getElem hl)
   cases h0:g n with
   | true=>
    rw[h0]at e
    rw[List.filter_cons_of_pos (by exact h0),List.filter_cons_of_pos (by exact e.symm)]
    simp[List.getElem?_eq_getElem hl]
   | false=>
    rw[h0]at e
    rw[List.filter_cons_of_neg (by rw[h0];exact Bool.false_ne_true),List.filter_cons_of_neg (by rw[←e];exact Bool.false_ne_true)]
    rfl
 have:=h T.length (Nat.le_refl _)
 rwa [List.take_length]at this
theorem wget_ne3 {w:Way} {a b:Trip}:(∀e,e<3→ordV (a.get (w.get e)) (b.get (w.get e))=0)↔along w a b=0:=by
 rw[along_zero]
 constructor
 ·intro h
  exact⟨h 0 (by omega),h 1 (by omega),h 2 (by omega)⟩
 ·rintro⟨h1,h2,h3⟩ e he
  rcases (show e=0∨e=1∨e=2 by omega) with rfl | rfl | rfl
  ·exact h1
  ·exact h2
  ·exact h3
theorem along_part {w:Way} {a b:Trip} {d:Nat} (hd:d<3) (h1:along w a b≤0) (same:∀e,e<d→ordV (a.get (w.get e)) (b.get (w.get e))=0):ordV (a.get (w.get d)) (b.get (w.get d))≤0:=by
 unfold along at h1
 have g0:w.get 0=w.i:=rfl
 have g1:w.get 1=w.j:=rfl
 have g2:w.get 2=w.k:=rfl
 rcases (show d=0∨d=1∨d=2 by omega) with rfl | rfl | rfl
 ·rw[g0]
  by_cases h0:ordV (a.get w.i) (b.get w.i)=0
  ·omega
  ·rw[thenC_ne h0]at h1;omega
 ·have s0:=same 0 (by omega)
  rw[g0]at s0
  rw[s0,thenC_zero]at h1
  rw[g1]
  by_cases h0:ordV (a.get w.j) (b.get w.j)=0
  ·omega
  ·rw[thenC_ne h0]at h1;omega
 ·have s0:=same 0 (by omega)
  have s1:=same 1 (by omega)
  rw[g0]at s0
  rw[g1]at s1
  rw[s0,s1,thenC_zero,thenC_zero]at h1
  rw[g2]
  omega
def Begins (w:Way) (pre:List Val) (t:Trip):Prop:=∀e v,pre[e]?=some v→t.get (w.get e)=v
theorem Begins.nil (w:Way) (t:Trip):Begins w [] t:=λe v h=>by simp at h
theorem Begins.snoc {w:Way} {pre:List Val} {v:Val} {t:Trip}:Begins w (pre++[v]) t↔Begins w pre t∧t.get (w.get pre.length)=v:=by
 constructor
 ·intro h
  refine⟨λe u hu=>h e u ?_,h _ _ (by simp)⟩
  rw[List.getElem?_append_left (List.getElem?_eq_some_iff.1 hu).1]
  exact hu
 ·rintro⟨h1,h2⟩ e u hu
  rcases Nat.lt_or_ge e pre.length with he | he
  ·rw[List.getElem?_append_left he]at hu
   exact h1 e u hu
  ·have hlt:=(List.getElem?_eq_some_iff.1 hu).1
   simp only[List.length_append,List.length_cons,List.length_nil]at hlt
   have:e=pre.length:=by omega
   subst this
   simp at hu
   rw[h2,hu]
open Classical in
noncomputable def keysA (T:List Trip) (w:Way) (pre:List Val):List Val:=loadR ordV ((T.filter λt=>decide (Begins w pre t)).map λt=>t.get (w.get pre.length))
section
variable {T K:List Trip} {w:Way}
theorem keysA_is (hT:∀t,t∈T→ScalT t) (pre:List Val):Rise ordV (keysA T w pre)∧∀x,x∈keysA T w pre↔∃t,t∈T∧Begins w pre t∧t.get (w.get pre.length)=x:=by
 unfold keysA
 have hs:∀x,x∈((T.filter λt=>@decide (Begins w pre t) (Classical.propDecidable _)).map λt=>t.get (w.get pre.length))↔∃t,t∈T∧Begins w pre t∧t.get (w.get pre.length)=x:=λx=>by
  rw[List.mem_map]
  constructor
  ·rintro⟨t,ht,e⟩
   obtain⟨h1,h2⟩:=List.mem_filter.1 ht
   exact⟨t,h1,@of_decide_eq_true _ (Classical.propDecidable _) h2,e⟩
  ·rintro⟨t,h1,h2,e⟩
   exact⟨t,List.mem_filter.2 ⟨h1,@decide_eq_true _ (Classical.propDecidable _) h2⟩,e⟩
 have hsc:∀x,x∈((T.filter λt=>@decide (Begins w pre t) (Classical.propDecidable _)).map λt=>t.get (w.get pre.length))→ScalV x:=λx hx=>by
  obtain⟨t,h1,_,e⟩:=(hs x).1 hx
  rw[←e]
  exact (hT t h1).get _
 have:=loadR_is ordV_pre (l:=(T.filter λt=>@decide (Begins w pre t) (Classical.propDecidable _)).map λt=>t.get (w.get pre.length)) λa ha b hb h0=>ordV_eq (hsc a ha) (hsc b hb) h0
 exact⟨this.1,λx=>(this.2 x).trans (hs x)⟩
structure InWay (T K:List Trip) (w:Way):Prop where
 ok:w.Ok
 mem:∀t,t∈K↔t∈T
 scal:∀t,t∈T→ScalT t
 rise:Rise (along w) K
theorem InWay.le (h:InWay T K w) {n m:Nat} {s t:Trip} (hs:K[n]?=some s) (ht:K[m]?=some t) (hnm:n≤m):along w s t≤0:=by
 obtain⟨ln,en⟩:=List.getElem?_eq_some_iff.1 hs
 obtain⟨lm,em⟩:=List.getElem?_eq_some_iff.1 ht
 by_cases e:n=m
 ·subst e
  rw[←en,←em]
  have:=(along_pre w).refl K[n]
  omega
 ·have:=List.pairwise_iff_getElem.1 h.rise n m ln lm (by omega)
  rw[en,em]at this
  omega
theorem InWay.scal' (h:InWay T K w) {n:Nat} {s:Trip} (hs:K[n]?=some s):ScalT s:=h.scal s ((h.mem s).1 (List.mem_of_getElem? hs))
theorem InWay.mono (h:InWay T K w) {pre:List Val} (hp:pre.length<3) {n m:Nat} {s t:Trip} (hs:K[n]?=some s) (ht:K[m]?=some t) (hnm:n≤m) (bs:Begins w pre s) (bt:Begins w pre t):ordV (s.get (w.get pre.length)) (t.get (w.get pre.length))≤0:=by
 refine along_part hp (h.le hs ht hnm) λe he=>?_
 rw[bs e _ (List.getElem?_eq_getElem he),bt e _ (List.getElem?_eq_getElem he)]
 exact ordV_refl _
structure Lev (K:List Trip) (w:Way) (pre:List Val) (v:Val) (a b s:Nat):Prop where
 d3:pre.length<3
 sa:s≤a
 ab:a<b
 bl:b≤K.length
 span:∀n t,K[n]?=some t→((s≤n∧n<b)↔Begins w pre t)
 here:∀t,K[a]?=some t→t.get (w.get pre.length)=v
 first:∀n t,s≤n→n<a→K[n]?=some t→ordV (t.get (w.get pre.length)) v<0
structure FirstAt (K:List Trip) (f:Trip→Prop) (a b q:Nat):Prop where
 aq:a≤q
 qb:q≤b
 no:∀n t,a≤n→n<q→K[n]?=some t→¬f t
 yes:∀t,q<b→K[q]?=some t→f t
theorem Lev.at_ {pre:List Val} {v:Val} {a b s:Nat} (h:Lev K w pre v a b s) {n:Nat} (hn:n<b):∃t,K[n]?=some t:=⟨_,List.getElem?_eq_getElem (Nat.lt_of_lt_of_le hn h.bl)⟩
theorem Lev.val (hK:InWay T K w) {pre:List Val} {v:Val} {a b s:Nat} (h:Lev K w pre v a b s):ScalV v:=by
 obtain⟨t,ht⟩:=h.at_ h.ab
 rw[←h.here t ht]
 exact (hK.scal' ht).get _
theorem Lev.to (hK:InWay T K w) {pre:List Val} {v:Val} {a b s q:Nat} (h:Lev K w pre v a b s) (past:Val→Bool)
    (hq:FirstAt K (λt=>past (t.get (w.get pre.length))=true) a b q) (f:Val→Bool) (hf:∀x,x∈keysA T w pre→f x=(decide (0≤ordV x v)&&past x)) :
    (q<b→∃x,(keysA T w pre).find? f=some x∧(∀t,K[q]?=some t→t.get (w.get pre.length)=x)∧Lev K w pre x q b s)∧(q=b→(keysA T w pre).find? f=none):=by
 obtain⟨kr,km⟩:=keysA_is (w:=w) hK.scal pre
 have hsv:=h.val hK
 have below:∀n t,s≤n→n<q→K[n]?=some t→f (t.get (w.get pre.length))=false:=λn t h1 h2 ht=>by
  have hb:=(h.span n t ht).1 ⟨h1,by have:=hq.qb;omega⟩
  rw[hf _ ((km _).2 ⟨t,(hK.mem t).1 (List.mem_of_getElem? ht),hb,rfl⟩)]
  by_cases hna:n<a
  ·have:=h.first n t h1 hna ht
   rw[decide_eq_false (by omega)]
   rfl
  ·have:=hq.no n t (by omega) h2 ht
   cases hp:past (t.get (w.get pre.length)) with
   | true=>exact absurd hp this
   | false=>rw[Bool.and_false]
 constructor
 ·intro hqb
  obtain⟨t,ht⟩:=h.at_ hqb
  have hbt:=(h.span q t ht).1 ⟨by have:=h.sa;have:=hq.aq;omega,hqb⟩
  have hmem:=(km _).2 ⟨t,(hK.mem t).1 (List.mem_of_getElem? ht),hbt,rfl⟩
  obtain⟨t0,ht0⟩:=h.at_ h.ab
  have hb0:=(h.span a t0 ht0).1 ⟨h.sa,h.ab⟩
  have hge:0≤ordV (t.get (w.get pre.length)) v:=by
   have:=hK.mono h.d3 ht0 ht hq.aq hb0 hbt
   rw[h.here t0 ht0]at this
   have:=ordV_anti v (t.get (w.get pre.length))
   omega
  have hft:f (t.get (w.get pre.length))=true:=by
   rw[hf _ hmem,decide_eq_true hge,hq.yes t hqb ht]
   rfl
  have hlow:∀n u,s≤n→n<q→K[n]?=some u→ordV (u.get (w.get pre.length)) (t.get (w.get pre.length))<0:=λn u h1 h2 hu=>by
   have hbu:=(h.span n u hu).1 ⟨h1,by omega⟩
   have h3:=hK.mono h.d3 hu ht (by omega) hbu hbt
   rcases Int.lt_or_eq_of_le h3 with h4 | h4
   ·exact h4
   ·have e:=ordV_eq ((hK.scal' hu).get _) ((hK.scal' ht).get _) h4
    have:=below n u h1 h2 hu
    rw[e,hft]at this
    cases this
  refine⟨t.get (w.get pre.length),?_,λu hu=>?_,⟨h.d3,by have:=h.sa;have:=hq.aq;omega,hqb,h.bl,h.span,λu hu=>?_,hlow⟩⟩
  ·rw[List.find?_eq_some_iff_append]
   refine⟨hft,?_⟩
   obtain⟨la,lb,e⟩:=List.append_of_mem hmem
   refine⟨la,lb,e,λy hy=>?_⟩
   rw[e]at kr
   have hlt:=(List.pairwise_append.1 kr).2.2 y hy _ List.mem_cons_self
   obtain⟨u,hu1,hu2,hu3⟩:=(km y).1 (by rw[e];exact List.mem_append_left _ hy)
   obtain⟨n,hn⟩:=List.getElem?_of_mem ((hK.mem u).2 hu1)
   have hin:=(h.span n u hn).2 hu2
   have hnq:n<q:=by
    rcases Nat.lt_or_ge n q with h1 | h1
    ·exact h1
    ·have h2:=hK.mono h.d3 ht hn h1 hbt hu2
     rw[hu3]at h2
     have:=ordV_anti y (t.get (w.get pre.length))
     omega
   have:=below n u hin.1 hnq hn
   rw[hu3]at this
   rw[this];rfl
  ·rw[ht]at hu;injection hu with hu;rw[hu]
  ·rw[ht]at hu;injection hu with hu;rw[hu]
 ·intro hqb
  rw[List.find?_eq_none]
  intro y hy
  obtain⟨u,hu1,hu2,hu3⟩:=(km y).1 hy
  obtain⟨n,hn⟩:=List.getElem?_of_mem ((hK.mem u).2 hu1)
  have hin:=(h.span n u hn).2 hu2
  have:=below n u hin.1 (by omega) hn
  rw[hu3]at this
  rw[this]
  exact Bool.false_ne_true
theorem lev_first (hK:InWay T K w) (hn:0<K.length):∃x r,keysA T w []=x::r∧Lev K w [] x 0 K.length 0:=by
 obtain⟨kr,km⟩:=keysA_is (w:=w) hK.scal []
 have h0:=List.getElem?_eq_getElem hn
 have hb:∀t,Begins w [] t:=λt=>Begins.nil w t
 have hmem:=(km (K[0].get (w.get 0))).2 ⟨K[0],(hK.mem _).1 (List.getElem_mem hn),hb _,rfl⟩
 cases hk:keysA T w [] with
 | nil=>rw[hk]at hmem;cases hmem
 | cons x r=>
  rw[hk]at hmem kr
  have hx:x=K[0].get (w.get 0):=by
   rcases List.mem_cons.1 hmem with e | e
   ·exact e.symm
   ·have h1:=(List.pairwise_cons.1 kr).1 _ e
    obtain⟨u,hu1,hu2,hu3⟩:=(km x).1 (by rw[hk];exact List.mem_cons_self)
    obtain⟨n,hn'⟩:=List.getElem?_of_mem ((hK.mem u).2 hu1)
    have h2:=hK.mono (pre:=[]) (by simp) h0 hn' (Nat.zero_le _) (hb _) (hb _)
    have e3:u.get (w.get 0)=x:=hu3
    have e4:ordV (K[0].get (w.get 0)) (u.get (w.get 0))≤0:=h2
    rw[e3]at e4
    have:=ordV_anti x (K[0].get (w.get 0))
    omega
  refine⟨x,r,rfl,by simp,Nat.zero_le _,hn,Nat.le_refl _,λn t ht=>⟨λ_=>hb t,λ_=>⟨Nat.zero_le _,(List.getElem?_eq_some_iff.1 ht).1⟩⟩,λt ht=>?_,λn t _ h=>absurd h (by omega)⟩
  rw[h0]at ht
  injection ht with ht
  rw[←ht,hx]
  rfl
theorem keysA_none (hK:InWay T K w) (hn:K.length=0):keysA T w []=[]:=by
 obtain⟨_,km⟩:=keysA_is (w:=w) hK.scal []
 cases hk:keysA T w [] with
 | nil=>rfl
 | cons x r=>
  obtain⟨u,hu1,_⟩:=(km x).1 (by rw[hk];exact List.mem_cons_self)
  have:=(hK.mem u).2 hu1
  rw[List.eq_nil_of_length_eq_zero hn]at this
  cases this
theorem Lev.down (hK:InWay T K w) {pre:List Val} {v:Val} {a b s q:Nat} (h:Lev K w pre v a b s) (hp:pre.length<2) (hq:FirstAt K (λt=>0<ordV (t.get (w.get pre.length)) v) a b q) :
    ∃x r,keysA T w (pre++[v])=x::r∧Lev K w (pre++[v]) x a q a:=by
 obtain⟨kr,km⟩:=keysA_is (w:=w) hK.scal (pre++[v])
 obtain⟨t,ht⟩:=h.at_ h.ab
 have hbt:=(h.span a t ht).1 ⟨h.sa,h.ab⟩
 have hbv:=Begins.snoc.2 ⟨hbt,h.here t ht⟩
 have hsv:=h.val hK
 have hlen:(pre++[v]).length=pre.length+1:=by simp
 have haq:a<q:=by
  rcases Nat.lt_or_ge a q with h1 | h1
  ·exact h1
  ·have e:q=a:=by have:=hq.aq;omega
   have h2:=hq.yes t (by rw[e];exact h.ab) (by rw[e];exact ht)
   rw[h.here t ht,ordV_refl]at h2
   omega
 have hspan:∀n u,K[n]?=some u→((a≤n∧n<q)↔Begins w (pre++[v]) u):=λn u hu=>by
  rw[Begins.snoc]
  constructor
  ·rintro⟨h1,h2⟩
   have hbu:=(h.span n u hu).1 ⟨by have:=h.sa;omega,by have:=hq.qb;omega⟩
   refine⟨hbu,?_⟩
   have h3:=hK.mono h.d3 ht hu h1 hbt hbu
   rw[h.here t ht]at h3
   have h4:=hq.no n u h1 h2 hu
   have:=ordV_anti v (u.get (w.get pre.length))
   exact (ordV_eq hsv ((hK.scal' hu).get _) (by omega)).symm
  ·rintro⟨h1,h2⟩
   have hin:=(h.span n u hu).2 h1
   constructor
   ·rcases Nat.lt_or_ge n a with h3 | h3
    ·have:=h.first n u hin.1 h3 hu
     rw[h2,ordV_refl]at this
     omega
    ·exact h3
   ·rcases Nat.lt_or_ge n q with h3 | h3
    ·exact h3
    ·obtain⟨y,hy⟩:=h.at_ (show q<b by omega)
     have h4:=hq.yes y (by omega) hy
     have hby:=(h.span q y hy).1 ⟨by have:=h.sa;omega,by omega⟩
     have h5:=hK.mono h.d3 hy hu h3 hby h1
     rw[h2]at h5
     omega
 have hmem:=(km (t.get (w.get (pre++[v]).length))).2 ⟨t,(hK.mem t).1 (List.mem_of_getElem? ht),hbv,rfl⟩
 cases hk:keysA T w (pre++[v]) with
 | nil=>rw[hk]at hmem;cases hmem
 | cons x r=>
  rw[hk]at hmem kr
  have hx:x=t.get (w.get (pre++[v]).length):=by
   rcases List.mem_cons.1 hmem with e | e
   ·exact e.symm
   ·have h1:=(List.pairwise_cons.1 kr).1 _ e
    obtain⟨u,hu1,hu2,hu3⟩:=(km x).1 (by rw[hk];exact List.mem_cons_self)
    obtain⟨n,hn'⟩:=List.getElem?_of_mem ((hK.mem u).2 hu1)
    have hin:=(hspan n u hn').2 hu2
    have h2:=hK.mono (pre:=pre++[v]) (by omega) ht hn' hin.1 hbv hu2
    rw[hu3]at h2
    have:=ordV_anti x (t.get (w.get (pre++[v]).length))
    omega
  refine⟨x,r,rfl,by omega,Nat.le_refl _,haq,Nat.le_trans hq.qb h.bl,hspan,λu hu=>?_,λn u h1 h2=>absurd h1 (by omega)⟩
  rw[ht]at hu
  injection hu with hu
  rw[←hu,hx]
end
structure CurA where
 way:List Val
 fin:Bool
noncomputable def openA (T:List Trip) (w:Way) (c:CurA):CurA×Bool:=
 if c.way.length=3∨c.fin=true then (c,false) else match keysA T w c.way with
  | []=>(c,false)
  | x::_=>(⟨c.way++[x],false⟩,true)
def upA (c:CurA):CurA×Bool:=if c.way=[] then (c,false) else (⟨c.way.dropLast,false⟩,true)
def toF (strict:Bool) (cur v x:Val):Bool:=decide (0≤ordV x cur)&&(if strict=true then decide (0<ordV x v) else decide (0≤ordV x v))
noncomputable def toA (T:List Trip) (w:Way) (strict:Bool) (v:Val) (c:CurA):CurA×Bool:=
 match c.way.getLast? with
 | none=>(c,false)
 | some cur=>if c.fin=true then (c,false) else match (keysA T w c.way.dropLast).find? (toF strict cur v) with
  | some x=>(⟨c.way.dropLast++[x],false⟩,true)
  | none=>(⟨c.way,true⟩,false)
noncomputable def nextA (T:List Trip) (w:Way) (c:CurA):CurA×Bool:=
 match c.way.getLast? with
 | none=>(c,false)
 | some cur=>if c.fin=true then (c,false) else toA T w true cur c
def keyA (c:CurA):Option Val:=if c.fin=true then none else c.way.getLast?
def upd (f:Nat→Nat) (e x:Nat):Nat→Nat:=λi=>if i=e then x else f i
theorem upd_same (f:Nat→Nat) (e x:Nat):upd f e x e=x:=if_pos rfl
theorem upd_other (f:Nat→Nat) {e x i:Nat} (h:i≠e):upd f e x i=f i:=if_neg h
structure CurN (K:List Trip) (w:Way) (c:CurA) (at_ en:Nat→Nat):Prop where
 d3:c.way.length≤3
 fin0:c.fin=true→0<c.way.length
 lev:∀e v,c.way[e]?=some v→(e+1<c.way.length∨c.fin=false)→∃s,Lev K w (c.way.take e) v (at_ (e+1)) (en (e+1)) s
 end_:c.fin=true→at_ c.way.length=en c.way.length∧en c.way.length≤K.length
section
variable {T K:List Trip} {w:Way} {c:CurA} {at_ en:Nat→Nat}
theorem CurN.start (K:List Trip) (w:Way) (at_ en:Nat→Nat):CurN K w ⟨[],false⟩ at_ en:=⟨Nat.zero_le _,λh=>(by cases h),λe v h=>(by simp at h),λh=>(by cases h)⟩
theorem CurN.last (h:CurN K w c at_ en) (h0:0<c.way.length) (hf:c.fin=false):∃v s,c.way.getLast?=some v∧c.way=c.way.dropLast++[v]∧c.way.dropLast.length+1=c.way.length∧Lev K w c.way.dropLast v (at_ c.way.length) (en c.way.length) s:=by
 have hne:c.way≠[]:=List.length_pos_iff.1 h0
 have e1:c.way.getLast?=some (c.way.getLast hne):=List.getLast?_eq_some_getLast hne
 have e2:c.way[c.way.length-1]?=some (c.way.getLast hne):=by rw[←e1,List.getLast?_eq_getElem?]
 obtain⟨s,hs⟩:=h.lev _ _ e2 (.inr hf)
 rw[←List.dropLast_eq_take,Nat.sub_add_cancel h0]at hs
 exact⟨_,s,e1,(List.dropLast_concat_getLast hne).symm,by rw[List.length_dropLast];omega,hs⟩
theorem CurN.stands (h:CurN K w c at_ en) (h0:0<c.way.length):at_ c.way.length<en c.way.length↔c.fin=false:=by
 cases hf:c.fin with
 | true=>
  have:=(h.end_ hf).1
  constructor
  ·intro h;omega
  ·intro h;cases h
 | false=>
  obtain⟨v,s,_,_,_,hl⟩:=h.last h0 hf
  exact⟨λ_=>rfl,λ_=>hl.ab⟩
theorem CurN.key (h:CurN K w c at_ en) (h0:0<c.way.length) (hf:c.fin=false):∃v t,keyA c=some v∧K[at_ c.way.length]?=some t∧t.get (w.get (c.way.length-1))=v:=by
 obtain⟨v,s,e1,e2,e3,hl⟩:=h.last h0 hf
 obtain⟨t,ht⟩:=hl.at_ hl.ab
 refine⟨v,t,?_,ht,?_⟩
 ·unfold keyA;rw[hf,if_neg Bool.false_ne_true,e1]
 ·have:=hl.here t ht
  rwa [show c.way.dropLast.length=c.way.length-1 by omega]at this
theorem CurN.key_none (h:c.fin=true∨c.way.length=0):keyA c=none:=by
 unfold keyA
 rcases h with h | h
 ·rw[if_pos h]
 ·rw[List.eq_nil_of_length_eq_zero h];split<;>rfl
theorem CurN.up (h:CurN K w c at_ en) (h0:0<c.way.length):upA c=(⟨c.way.dropLast,false⟩,true)∧CurN K w ⟨c.way.dropLast,false⟩ at_ en:=by
 have hne:c.way≠[]:=List.length_pos_iff.1 h0
 constructor
 ·unfold upA;rw[if_neg hne]
 ·refine⟨by have:=h.d3;rw[List.length_dropLast];omega,λh=>(by cases h),λe v he _=>?_,λh=>(by cases h)⟩
  have hl:=(List.getElem?_eq_some_iff.1 he).1
  rw[List.length_dropLast]at hl
  have he2:c.way[e]?=some v:=by
   rw[List.dropLast_eq_take,List.getElem?_take_of_lt (by omega)]at he
   exact he
  obtain⟨s,hs⟩:=h.lev e v he2 (.inl (by omega))
  refine⟨s,?_⟩
  show Lev K w (c.way.dropLast.take e) v _ _ s
  rw[List.dropLast_eq_take,List.take_take,Nat.min_eq_left (by omega)]
  exact hs
theorem up_none (h:c.way.length=0):upA c=(c,false):=by
 unfold upA;rw[if_pos (List.eq_nil_of_length_eq_zero h)]
theorem CurN.open_first (hK:InWay T K w) (h0:c.way.length=0) (hf:c.fin=false) (hn:0<K.length):∃x,openA T w c=(⟨[x],false⟩,true)∧CurN K w ⟨[x],false⟩ (upd at_ 1 0) (upd en 1 K.length):=by
 obtain⟨x,r,hk,hl⟩:=lev_first hK hn
 have e0:=List.eq_nil_of_length_eq_zero h0
 refine⟨x,?_,?_⟩
 ·unfold openA
  rw[hf,e0,if_neg (by simp),hk]
  rfl
 ·refine⟨by simp,λh=>(by cases h),λe v he _=>?_,λh=>(by cases h)⟩
  have:e=0:=by have:=(List.getElem?_eq_some_iff.1 he).1;simp at this;exact this
  subst this
  simp at he
  subst he
  refine⟨0,?_⟩
  rw[upd_same,upd_same]
  exact hl
theorem open_none (hK:InWay T K w) (h:c.way.length=3∨c.fin=true∨(c.way.length=0∧K.length=0)):openA T w c=(c,false):=by
 unfold openA
 rcases h with h | h | ⟨h1,h2⟩
 ·rw[if_pos (.inl h)]
 ·rw[if_pos (.inr h)]
 ·split
  ·rfl
  ·rw[List.eq_nil_of_length_eq_zero h1,keysA_none hK h2]
theorem CurN.open_next (hK:InWay T K w) (h:CurN K w c at_ en) (h0:0<c.way.length) (h3:c.way.length<3) (hf:c.fin=false) {v:Val} (hv:keyA c=some v) {q:Nat}
    (hq:FirstAt K (λt=>0<ordV (t.get (w.get (c.way.length-1))) v) (at_ c.way.length) (en c.way.length) q) :
    ∃x,openA T w c=(⟨c.way++[x],false⟩,true)∧CurN K w ⟨c.way++[x],false⟩ (upd at_ (c.way.length+1) (at_ c.way.length)) (upd en (c.way.length+1) q):=by
 obtain⟨v',s,e1,e2,e3,hl⟩:=h.last h0 hf
 have ev:v'=v:=by unfold keyA at hv;rw[hf,if_neg Bool.false_ne_true,e1]at hv;injection hv
 subst ev
 rw[show c.way.length-1=c.way.dropLast.length by omega]at hq
 obtain⟨x,r,hk,hd⟩:=hl.down hK (by omega) hq
 rw[←e2]at hk hd
 refine⟨x,?_,?_⟩
 ·unfold openA
  rw[if_neg (by rw[hf];simp;omega),hk]
 ·refine⟨by simp;omega,λh=>(by cases h),λe u he _=>?_,λh=>(by cases h)⟩
  show ∃s,Lev K w ((c.way++[x]).take e) u _ _ s
  rcases Nat.lt_or_ge e c.way.length with hlt | hge
  ·have he:(c.way++[x])[e]?=some u:=he
   rw[List.getElem?_append_left hlt]at he
   obtain⟨s,hs⟩:=h.lev e u he (.inr hf)
   refine⟨s,?_⟩
   rw[upd_other _ (by omega),upd_other _ (by omega),List.take_append_of_le_length (by omega)]
   exact hs
  ·have hl:=(List.getElem?_eq_some_iff.1 he).1
   simp only[List.length_append,List.length_cons,List.length_nil]at hl
   have:e=c.way.length:=by omega
   subst this
   have he:(c.way++[x])[c.way.length]?=some u:=he
   simp at he
   subst he
   refine⟨at_ c.way.length,?_⟩
   show Lev K w ((c.way++[x]).take c.way.length) x _ _ _
   rw[upd_same,upd_same,List.take_left' rfl]
   exact hd
theorem CurN.to (hK:InWay T K w) (h:CurN K w c at_ en) (h0:0<c.way.length) (hf:c.fin=false) (strict:Bool) (v:Val) {q:Nat}
    (hq:FirstAt K (λt=>(if strict=true then decide (0<ordV (t.get (w.get (c.way.length-1))) v) else decide (0≤ordV (t.get (w.get (c.way.length-1))) v))=true) (at_ c.way.length) (en c.way.length) q) :
    ∃c',toA T w strict v c=(c',!c'.fin)∧c'.way.length=c.way.length∧CurN K w c' (upd at_ c.way.length q) en:=by
 obtain⟨cur,s,e1,e2,e3,hl⟩:=h.last h0 hf
 rw[show c.way.length-1=c.way.dropLast.length by omega]at hq
 obtain⟨hyes,hno⟩:=hl.to hK (λx=>if strict=true then decide (0<ordV x v) else decide (0≤ordV x v)) hq (toF strict cur v) (λx _=>rfl)
 have keep:∀c':CurA,c'.way.take c.way.dropLast.length=c.way.dropLast→c'.way.length=c.way.length→∀e u,c'.way[e]?=some u→e<c.way.dropLast.length→∃s,Lev K w (c'.way.take e) u (upd at_ c.way.length q (e+1)) (en (e+1)) s:=by
  intro c' ht hlen e u he hlt
  have he2:c.way[e]?=some u:=by
   have h1:(c'.way.take c.way.dropLast.length)[e]?=some u:=by rw[List.getElem?_take_of_lt hlt];exact he
   rw[ht]at h1
   rw[e2,List.getElem?_append_left hlt]
   exact h1
  obtain⟨s,hs⟩:=h.lev e u he2 (.inr hf)
  refine⟨s,?_⟩
  rw[upd_other _ (by omega)]
  have h2:c'.way.take e=c.way.take e:=by
   have h3:(c'.way.take c.way.dropLast.length).take e=c'.way.take e:=by rw[List.take_take,Nat.min_eq_left (by omega)]
   rw[←h3,ht,List.dropLast_eq_take,List.take_take,Nat.min_eq_left (by omega)]
  rw[h2]
  exact hs
 rcases Nat.lt_or_ge q (en c.way.length) with hlt | hge
 ·obtain⟨x,hx1,hx2,hx3⟩:=hyes hlt
  have hlen:(c.way.dropLast++[x]).length=c.way.length:=by simp only[List.length_append,List.length_cons,List.length_nil];omega
  refine⟨⟨c.way.dropLast++[x],false⟩,?_,hlen,?_⟩
  ·unfold toA
   rw[e1]
   simp only
   rw[hf,if_neg Bool.false_ne_true,hx1]
   rfl
  ·refine⟨by show (c.way.dropLast++[x]).length≤3;rw[hlen];exact h.d3,λh=>(by cases h),λe u he _=>?_,λh=>(by cases h)⟩
   rcases Nat.lt_or_ge e c.way.dropLast.length with h1 | h1
   ·exact keep ⟨c.way.dropLast++[x],false⟩ (by show (c.way.dropLast++[x]).take _=_;rw[List.take_left'];rfl) hlen e u he h1
   ·have h2:=(List.getElem?_eq_some_iff.1 he).1
    have h3:(c.way.dropLast++[x]).length=c.way.dropLast.length+1:=by simp
    have h2:e<(c.way.dropLast++[x]).length:=h2
    have:e=c.way.dropLast.length:=by omega
    subst this
    have he:(c.way.dropLast++[x])[c.way.dropLast.length]?=some u:=he
    rw[List.getElem?_append_right (Nat.le_refl _)]at he
    simp at he
    subst he
    refine⟨s,?_⟩
    show Lev K w ((c.way.dropLast++[x]).take c.way.dropLast.length) x _ _ s
    rw[List.take_left' rfl,e3,upd_same]
    exact hx3
 ·have heq:q=en c.way.length:=by have:=hq.qb;omega
  refine⟨⟨c.way,true⟩,?_,rfl,?_⟩
  ·unfold toA
   rw[e1]
   simp only
   rw[hf,if_neg Bool.false_ne_true,hno heq]
   rfl
  ·refine⟨h.d3,λ_=>h0,λe u he hor=>?_,λ_=>⟨?_,hl.bl⟩⟩
   ·rcases hor with h1 | h1
    ·exact keep ⟨c.way,true⟩ (by show c.way.take _=_;rw[e2];simp) rfl e u he (by have:e+1<c.way.length:=h1;omega)
    ·cases h1
   ·show upd at_ c.way.length q c.way.length=_
    rw[upd_same,heq]
theorem next_none (h:c.fin=true∨c.way.length=0):nextA T w c=(c,false):=by
 unfold nextA
 split
 ·rfl
 ·rename_i cur hc
  rcases h with h | h
  ·rw[if_pos h]
  ·rw[List.eq_nil_of_length_eq_zero h]at hc
   cases hc
theorem next_to {v:Val} (hf:c.fin=false) (hv:keyA c=some v):nextA T w c=toA T w true v c:=by
 unfold keyA at hv
 rw[hf,if_neg Bool.false_ne_true]at hv
 unfold nextA
 rw[hv]
 simp only
 rw[hf,if_neg Bool.false_ne_true]
end
end Go.Proofs.YtefhfadjajcmkaaGreatDoor
namespace Go.Proofs.YtefhfadjajcmkaaGreatDoor
open Go Go.RowKit
open Go.Lib (hid cell_of_heap)
structure KindT (v:Val):Prop where
 kind:v.kind=1∨v.kind=2∨v.kind=3∨v.kind=4∨v.kind=8∨v.kind=9∨v.kind=10
 fit:FitV v
theorem cmpT_any (a b:Val) (sa sb:Value) (w:World) (ka:KindT a) (fb:FitV b) (hgb:GlobB w) (hgt:GlobT w) :
    Calls Tryz.prog 114 #[.agg (cellsV a sa),.agg (cellsV b sb)] w (OrdIs a b w):=by
 have ho:=hid (λ(W:World) (hW:Below w.heap.size w W)=>ordP_any a b sa sb W ka.kind ka.fit fb (glob_under hgb hW) (globT_under hgt hW))
 unfold OrdIs at ho ⊢
 obtain⟨v,Hv⟩:=name_itV (ordV a b)
 rw[Hv.out]at ho ⊢
 clear Hv ka fb hgb hgt
 have HB:=hid (λo1 o2:Obj=>two_new w o1 o2)
 cases a with
 | mk k1 b1 n1 t1 x1 l1=>
 cases b with
 | mk k2 b2 n2 t2 x2 l2=>
 unfold cellsV at ho ⊢
 simp only[Val.kind,Val.truth,Val.num,Val.text,Val.extra]at ho ⊢
 go_enter Tryz.func114,Tryz.ntmps114
 go_wp2_with fail
 refine (ho.out _ (HB.out _ _)).mono ?_
 rintro e w1 ⟨rfl,hb1⟩
 have HC:=hid ((HB.out _ _).trans (hb1.mono (HB.out _ _).size))
 clear hb1
 go_wp2_with fail
 go_ret
 exact⟨rfl,HC.out⟩
def cellsT (t:Trip) (ss:Nat→Value):Array Value:=cellsV t.s (ss 0)++cellsV t.p (ss 1)++cellsV t.o (ss 2)
theorem cellsT_size (t:Trip) (ss:Nat→Value):(cellsT t ss).size=18:=rfl
theorem cellsT_part (t:Trip) (ss:Nat→Value) (n:Nat) (hn:n<3) (j:Nat) (hj:j<6):(cellsT t ss)[n*6+j]?=(cellsV (t.get n) (ss n))[j]?:=by
 rcases (show n=0∨n=1∨n=2 by omega) with rfl | rfl | rfl<;>rcases (show j=0∨j=1∨j=2∨j=3∨j=4∨j=5 by omega) with rfl | rfl | rfl | rfl | rfl | rfl<;>kernel_rfl
structure Eq18 (c:Array Value) (t:Trip) (ss:Nat→Value):Prop where
 out:cellsT t ss=c
theorem name18 (t:Trip) (ss:Nat→Value):∃c,Eq18 c t ss:=⟨_,⟨rfl⟩⟩
theorem Eq18.size {c:Array Value} {t:Trip} {ss:Nat→Value} (h:Eq18 c t ss):c.size=18:=by rw[←h.out];rfl
theorem part_range {w:World} {z:Nat} {c:Array Value} {T:TypeId} {fr:Nat×Nat} {t:Trip} {ss:Nat→Value} (h:w.heap[z]?=some (.cells c T fr)) (he:Eq18 c t ss) {n:Nat} (hn:n<3):w.rangeAt z (n*6) (cellsV (t.get n) (ss n)).toList:=λj v hv=>by
 have hj:j<6:=(List.getElem?_eq_some_iff.1 hv).1
 rw[cell_of_row w z (n*6+j) c T fr h,←he.out,cellsT_part t ss n hn j hj,←Array.getElem?_toList]
 exact hv
theorem ld_part {P:Program} {w:World} {z o:Nat} {v:Val} {s:Value} (hr:w.rangeAt z o (cellsV v s).toList) (ty:TypeId) (d:TypeDesc) (hu:P.underlying ty=some d) (hd:d.isRow=true) (hi:(P.info? ty).map (·.size)=some 6) :
    (Instr.loadAt ty (.pointer (some ⟨z,o,none⟩))).run P w = .ok (.agg (cellsV v s)) w:=by
 have:=run_loadAt_mid (P:=P) w z o ty (cellsV v s).toList d hr hu hd (by rw[Array.length_toList];exact hi)
 rwa [Array.toArray_toList]at this
structure AlM (w:World) (z:Nat) (c1 c2:Array Value) (wx:World):Prop where
 hb:Below w.heap.size w wx
 h1:wx.heap[z]?=some (.cells c1 99 (0,0))
 h2:wx.heap[z+1]?=some (.cells c2 99 (0,0))
theorem AlM.on {w wx w':World} {z:Nat} {c1 c2:Array Value} (h:AlM w z c1 c2 wx) (hb:Below wx.heap.size wx w'):AlM w z c1 c2 w':=
 ⟨h.hb.trans (hb.mono h.hb.size),(hb.block _ (blk_lt h.h1)).trans h.h1,(hb.block _ (blk_lt h.h2)).trans h.h2⟩
theorem AlM.drew {w wx:World} {z:Nat} {c1 c2:Array Value} (h:AlM w z c1 c2 wx):AlM w z c1 c2 wx.drew:=⟨h.hb.drew,h.h1,h.h2⟩
def alK (w:Way) (a b:Trip) (k:Nat):Prop:=∀e,e<k→ordV (a.get (w.get e)) (b.get (w.get e))=0
theorem along_at {w:Way} {a b:Trip} {k:Nat} (hk:k<3) (h:alK w a b k) (hne:ordV (a.get (w.get k)) (b.get (w.get k))≠0):along w a b=ordV (a.get (w.get k)) (b.get (w.get k)):=by
 unfold along
 rcases (show k=0∨k=1∨k=2 by omega) with rfl | rfl | rfl
 ·exact thenC_ne hne
 ·have h0:ordV (a.get w.i) (b.get w.i)=0:=h 0 (by omega)
  rw[h0,thenC_zero]
  exact thenC_ne hne
 ·have h0:ordV (a.get w.i) (b.get w.i)=0:=h 0 (by omega)
  have h1:ordV (a.get w.j) (b.get w.j)=0:=h 1 (by omega)
  rw[h0,h1,thenC_zero,thenC_zero]
  rfl
theorem along_all {w:Way} {a b:Trip} (h:alK w a b 3):along w a b=0:=wget_ne3.1 λe he=>h e he
theorem alK_succ {w:Way} {a b:Trip} {k:Nat} (h:alK w a b k) (h0:ordV (a.get (w.get k)) (b.get (w.get k))=0):alK w a b (k+1):=λe he=>by
 by_cases hek:e=k
 ·rw[hek];exact h0
 ·exact h e (by omega)
theorem idx_parts (z n:Nat) (hn:n<3) (w:World):(Instr.indexAt 99 (.pointer (some ⟨z,0,none⟩)) (.int .i64 (n:Nat))).run Tryz.prog w = .ok (.pointer (some ⟨z,n*6,none⟩)) w:=by
 rcases (show n=0∨n=1∨n=2 by omega) with rfl | rfl | rfl<;>kernel_rfl
def AlIs (W:Way) (a b:Trip) (w:World) (e:Ending) (w':World):Prop:=e = .returned (.int .i64 (along W a b))∧Below w.heap.size w w'
theorem along_any (W:Way) (hW:W.Ok) (a b:Trip) (sa sb:Nat→Value) (w:World) (ka:∀n,KindT (a.get n)) (fb:∀n,FitV (b.get n)) (hgb:GlobB w) (hgt:GlobT w) :
    Calls Tryz.prog 51 #[.agg (cellsT a sa),.agg (cellsT b sb),.agg #[.int .i64 (W.i:Nat),.int .i64 (W.j:Nat),.int .i64 (W.k:Nat)]] w (AlIs W a b w):=by
 have hcm:=hid (λ(n:Nat) (W':World) (hb:Below w.heap.size w W')=>cmpT_any (a.get n) (b.get n) (sa n) (sb n) W' (ka n) (fb n) (glob_under hgb hb) (globT_under hgt hb))
 obtain⟨v,Hv⟩:=name_itV (along W a b)
 have HE:=hid (show ∀w',Below w.heap.size w w'→AlIs W a b w (.returned (.int .i64 v)) w' from λw' hb=>⟨by rw[Hv.out],hb⟩)
 have HNE:=hid (λ(k:Nat) (hk:k<3) (h:alK W a b k) (hne:ordV (a.get (W.get k)) (b.get (W.get k))≠0)=>(show v=ordV (a.get (W.get k)) (b.get (W.get k)) from Hv.out.symm.trans (along_at hk h hne)))
 have HZ:=hid (λh:alK W a b 3=>(show v=0 from Hv.out.symm.trans (along_all h)))
 have HLT:=hid (λk:Nat=>hW.lt k)
 clear Hv ka fb hgb hgt hW
 obtain⟨c1,Hc1⟩:=name18 a sa
 obtain⟨c2,Hc2⟩:=name18 b sb
 rw[Hc1.out,Hc2.out]
 obtain⟨z,Hz⟩:=name_itV w.heap.size
 obtain⟨i,Hi⟩:=name_itV W.i
 obtain⟨j,Hj⟩:=name_itV W.j
 obtain⟨l,Hl⟩:=name_itV W.k
 rw[Hi.out,Hj.out,Hl.out]
 obtain⟨w1,HW1⟩:=name_itV (((w.alloc (.cells c1 99)).alloc (.cells c2 99)).alloc (.cells #[.int .i64 (i:Nat),.int .i64 (j:Nat),.int .i64 (l:Nat)] 101))
 have HM:=hid (show AlM w z c1 c2 w1 from by
  rw[←HW1.out,←Hz.out]
  exact⟨(two_new w _ _).alloc (by simp;omega) _,alloc3_0 w _ _ _,alloc3_1 w _ _ _⟩)
 have HP:=hid (show w1.heap[z+2]?=some (.cells #[.int .i64 (i:Nat),.int .i64 (j:Nat),.int .i64 (l:Nat)] 101 (0,0)) from by rw[←HW1.out,←Hz.out];exact alloc3_2 w _ _ _)
 have p0:w1.cell? ⟨z+2,0,none⟩=some (.int .i64 (i:Nat)):=cell_of_heap HP.out 0
 have p1:w1.cell? ⟨z+2,1,none⟩=some (.int .i64 (j:Nat)):=cell_of_heap HP.out 1
 have p2:w1.cell? ⟨z+2,2,none⟩=some (.int .i64 (l:Nat)):=cell_of_heap HP.out 2
 go_enter Tryz.func51,Tryz.ntmps51
 go_upto_region 1 with fail
 rw[HW1.out,Hz.out]
 clear HW1
 go_wp2_with fail
 clear p0 p1 p2 HP
 go_loopw [11] (λs11 wx=>∃k:Nat,k≤3∧s11 = .int .i64 (k:Nat)∧AlM w z c1 c2 wx∧Hid (alK W a b k)) (λs11 _=>3-(intOf s11).toNat)
 case atStart=>exact⟨0,by omega,rfl,HM.out,hid (λe he=>absurd he (by omega))⟩
 case round=>
  obtain⟨k,hk,rfl,hM,hA⟩:=hrel
  clear HM
  have HM:=hid hM
  clear hM
  by_cases hk3:k=3
  ·subst hk3
   have hv:=hid (HZ.out hA.out)
   clear HNE HZ hA
   go_wp2_with fail
   go_ret
   have:=HE.out _ HM.out.hb
   rwa [hv.out]at this
  ·rcases (show k=0∨k=1∨k=2 by omega) with rfl | rfl | rfl
   ·clear hk hk3
    have en:=hid (show W.get 0=i from Hi.out)
    have hlt:=hid (show i<3 from by rw[←en.out];exact HLT.out 0)
    have hcn:=hid (λ(W':World) (hb:Below w.heap.size w W')=>hcm.out i W' hb)
    unfold OrdIs at hcn
    have hne:=hid (HNE.out 0 (by omega) hA.out)
    have hsu:=hid (λh0=>alK_succ (k:=0) hA.out h0)
    rw[en.out]at hne hsu
    obtain⟨c,Hc⟩:=name_itV (ordV (a.get i) (b.get i))
    rw[Hc.out]at hcn hne hsu
    clear HNE HZ hA HLT hcm en Hc
    have hix:=λW:World=>(show (Instr.index 101 (.agg #[.int .i64 (i:Nat),.int .i64 (j:Nat),.int .i64 (l:Nat)]) (.int .i64 0)).run Tryz.prog W = .ok (.int .i64 (i:Nat)) W from by kernel_rfl)
    go_upto_region 4 with fail
    clear hix
    refine wp_region_held_drew (S:=λW'=>AlM w z c1 c2 W') (by kernel_rfl) HM.out.drew (λhH=>?_)
    refine Boxed.out ?_
    refine tkV 0 14 (.int .i64 (i:Nat)) hH (λhH=>?_)
    try simp only[Act.put,aT,aZ,aS]
    refine tkW 1 15 (.pointer (some ⟨z,i*6,none⟩)) hH (λw hSw=>?_) (λhH=>?_)
    ·exact val_of (idx_parts z i hlt.out w)
    try simp only[Act.put,aT,aZ,aS]
    refine tkW 2 16 (.agg (cellsV (a.get i) (sa i))) hH (λw hSw=>?_) (λhH=>?_)
    ·exact val_of (ld_part (part_range hSw.h1 Hc1 hlt.out) 39 _ Tryz.underlying39 rfl (by kernel_rfl))
    try simp only[Act.put,aT,aZ,aS]
    refine tkV 3 17 (.int .i64 (i:Nat)) hH (λhH=>?_)
    try simp only[Act.put,aT,aZ,aS]
    refine tkW 4 18 (.pointer (some ⟨z+1,i*6,none⟩)) hH (λw hSw=>?_) (λhH=>?_)
    ·exact val_of (idx_parts (z+1) i hlt.out w)
    try simp only[Act.put,aT,aZ,aS]
    refine tkW 5 19 (.agg (cellsV (b.get i) (sb i))) hH (λw hSw=>?_) (λhH=>?_)
    ·exact val_of (ld_part (part_range hSw.h2 Hc2 hlt.out) 39 _ Tryz.underlying39 rfl (by kernel_rfl))
    try simp only[Act.put,aT,aZ,aS]
    obtain⟨u1,Hu1⟩:=name_itV (cellsV (a.get i) (sa i))
    obtain⟨u2,Hu2⟩:=name_itV (cellsV (b.get i) (sb i))
    rw[Hu1.out,Hu2.out]at hcn ⊢
    refine tkC 6 (λK hK=>?_)
    change Oper.wp _ ⟨some 20,_,_,_,_,_⟩ _ _ _ _
    go_simp
    refine (hcn.out _ HM.out.hb.drew).mono ?_
    rintro e w2 ⟨rfl,hb2⟩
    have HN:=hid (HM.out.drew.on hb2)
    clear hb2 hcn
    dsimp only
    refine hK.out _ _ HN.out (λhH=>?_)
    clear hK K
    try simp only[Act.put,aT,aZ,aS]
    refine tkV 7 9 (.int .i64 c) hH (λhH=>?_)
    try simp only[Act.put,aT,aZ,aS]
    refine⟨wpAnyH_done (by kernel_rfl) ?_ _⟩
    clear hH HM Hu1 Hu2 hlt
    by_cases hc:c=0
    ·have e1:(c != 0)=false:=by simpa using hc
     have hz:=hid (hsu.out hc)
     clear hc hne hsu
     go_wp2_with fail
     go_roundw
     case rel=>exact⟨1,by omega,(by first | rfl | trivial),HN.out,hz⟩
     case measure=>simp[intOf]
    ·have e1:(c != 0)=true:=bne_iff_ne.2 hc
     have hv:=hid (hne.out hc)
     clear hc hne hsu
     go_wp2_with fail
     go_ret
     have:=HE.out _ HN.out.hb
     rwa [hv.out]at this
   ·clear hk hk3
    have en:=hid (show W.get 1=j from Hj.out)
    have hlt:=hid (show j<3 from by rw[←en.out];exact HLT.out 1)
    have hcn:=hid (λ(W':World) (hb:Below w.heap.size w W')=>hcm.out j W' hb)
    unfold OrdIs at hcn
    have hne:=hid (HNE.out 1 (by omega) hA.out)
    have hsu:=hid (λh0=>alK_succ (k:=1) hA.out h0)
    rw[en.out]at hne hsu
    obtain⟨c,Hc⟩:=name_itV (ordV (a.get j) (b.get j))
    rw[Hc.out]at hcn hne hsu
    clear HNE HZ hA HLT hcm en Hc
    have hix:=λW:World=>(show (Instr.index 101 (.agg #[.int .i64 (i:Nat),.int .i64 (j:Nat),.int .i64 (l:Nat)]) (.int .i64 1)).run Tryz.prog W = .ok (.int .i64 (j:Nat)) W from by kernel_rfl)
    go_upto_region 4 with fail
    clear hix
    refine wp_region_held_drew (S:=λW'=>AlM w z c1 c2 W') (by kernel_rfl) HM.out.drew (λhH=>?_)
    refine Boxed.out ?_
    refine tkV 0 14 (.int .i64 (j:Nat)) hH (λhH=>?_)
    try simp only[Act.put,aT,aZ,aS]
    refine tkW 1 15 (.pointer (some ⟨z,j*6,none⟩)) hH (λw hSw=>?_) (λhH=>?_)
    ·exact val_of (idx_parts z j hlt.out w)
    try simp only[Act.put,aT,aZ,aS]
    refine tkW 2 16 (.agg (cellsV (a.get j) (sa j))) hH (λw hSw=>?_) (λhH=>?_)
    ·exact val_of (ld_part (part_range hSw.h1 Hc1 hlt.out) 39 _ Tryz.underlying39 rfl (by kernel_rfl))
    try simp only[Act.put,aT,aZ,aS]
    refine tkV 3 17 (.int .i64 (j:Nat)) hH (λhH=>?_)
    try simp only[Act.put,aT,aZ,aS]
    refine tkW 4 18 (.pointer (some ⟨z+1,j*6,none⟩)) hH (λw hSw=>?_) (λhH=>?_)
    ·exact val_of (idx_parts (z+1) j hlt.out w)
    try simp only[Act.put,aT,aZ,aS]
    refine tkW 5 19 (.agg (cellsV (b.get j) (sb j))) hH (λw hSw=>?_) (λhH=>?_)
    ·exact val_of (ld_part (part_range hSw.h2 Hc2 hlt.out) 39 _ Tryz.underlying39 rfl (by kernel_rfl))
    try simp only[Act.put,aT,aZ,aS]
    obtain⟨u1,Hu1⟩:=name_itV (cellsV (a.get j) (sa j))
    obtain⟨u2,Hu2⟩:=name_itV (cellsV (b.get j) (sb j))
    rw[Hu1.out,Hu2.out]at hcn ⊢
    refine tkC 6 (λK hK=>?_)
    change Oper.wp _ ⟨some 20,_,_,_,_,_⟩ _ _ _ _
    go_simp
    refine (hcn.out _ HM.out.hb.drew).mono ?_
    rintro e w2 ⟨rfl,hb2⟩
    have HN:=hid (HM.out.drew.on hb2)
    clear hb2 hcn
    dsimp only
    refine hK.out _ _ HN.out (λhH=>?_)
    clear hK K
    try simp only[Act.put,aT,aZ,aS]
    refine tkV 7 9 (.int .i64 c) hH (λhH=>?_)
    try simp only[Act.put,aT,aZ,aS]
    refine⟨wpAnyH_done (by kernel_rfl) ?_ _⟩
    clear hH HM Hu1 Hu2 hlt
    by_cases hc:c=0
    ·have e1:(c != 0)=false:=by simpa using hc
     have hz:=hid (hsu.out hc)
     clear hc hne hsu
     go_wp2_with fail
     go_roundw
     case rel=>exact⟨2,by omega,(by first | rfl | trivial),HN.out,hz⟩
     case measure=>simp[intOf]
    ·have e1:(c != 0)=true:=bne_iff_ne.2 hc
     have hv:=hid (hne.out hc)
     clear hc hne hsu
     go_wp2_with fail
     go_ret
     have:=HE.out _ HN.out.hb
     rwa [hv.out]at this
   ·clear hk hk3
    have en:=hid (show W.get 2=l from Hl.out)
    have hlt:=hid (show l<3 from by rw[←en.out];exact HLT.out 2)
    have hcn:=hid (λ(W':World) (hb:Below w.heap.size w W')=>hcm.out l W' hb)
    unfold OrdIs at hcn
    have hne:=hid (HNE.out 2 (by omega) hA.out)
    have hsu:=hid (λh0=>alK_succ (k:=2) hA.out h0)
    rw[en.out]at hne hsu
    obtain⟨c,Hc⟩:=name_itV (ordV (a.get l) (b.get l))
    rw[Hc.out]at hcn hne hsu
    clear HNE HZ hA HLT hcm en Hc
    have hix:=λW:World=>(show (Instr.index 101 (.agg #[.int .i64 (i:Nat),.int .i64 (j:Nat),.int .i64 (l:Nat)]) (.int .i64 2)).run Tryz.prog W = .ok (.int .i64 (l:Nat)) W from by kernel_rfl)
    go_upto_region 4 with fail
    clear hix
    refine wp_region_held_drew (S:=λW'=>AlM w z c1 c2 W') (by kernel_rfl) HM.out.drew (λhH=>?_)
    refine Boxed.out ?_
    refine tkV 0 14 (.int .i64 (l:Nat)) hH (λhH=>?_)
    try simp only[Act.put,aT,aZ,aS]
    refine tkW 1 15 (.pointer (some ⟨z,l*6,none⟩)) hH (λw hSw=>?_) (λhH=>?_)
    ·exact val_of (idx_parts z l hlt.out w)
    try simp only[Act.put,aT,aZ,aS]
    refine tkW 2 16 (.agg (cellsV (a.get l) (sa l))) hH (λw hSw=>?_) (λhH=>?_)
    ·exact val_of (ld_part (part_range hSw.h1 Hc1 hlt.out) 39 _ Tryz.underlying39 rfl (by kernel_rfl))
    try simp only[Act.put,aT,aZ,aS]
    refine tkV 3 17 (.int .i64 (l:Nat)) hH (λhH=>?_)
    try simp only[Act.put,aT,aZ,aS]
    refine tkW 4 18 (.pointer (some ⟨z+1,l*6,none⟩)) hH (λw hSw=>?_) (λhH=>?_)
    ·exact val_of (idx_parts (z+1) l hlt.out w)
    try simp only[Act.put,aT,aZ,aS]
    refine tkW 5 19 (.agg (cellsV (b.get l) (sb l))) hH (λw hSw=>?_) (λhH=>?_)
    ·exact val_of (ld_part (part_range hSw.h2 Hc2 hlt.out) 39 _ Tryz.underlying39 rfl (by kernel_rfl))
    try simp only[Act.put,aT,aZ,aS]
    obtain⟨u1,Hu1⟩:=name_itV (cellsV (a.get l) (sa l))
    obtain⟨u2,Hu2⟩:=name_itV (cellsV (b.get l) (sb l))
    rw[Hu1.out,Hu2.out]at hcn ⊢
    refine tkC 6 (λK hK=>?_)
    change Oper.wp _ ⟨some 20,_,_,_,_,_⟩ _ _ _ _
    go_simp
    refine (hcn.out _ HM.out.hb.drew).mono ?_
    rintro e w2 ⟨rfl,hb2⟩
    have HN:=hid (HM.out.drew.on hb2)
    clear hb2 hcn
    dsimp only
    refine hK.out _ _ HN.out (λhH=>?_)
    clear hK K
    try simp only[Act.put,aT,aZ,aS]
    refine tkV 7 9 (.int .i64 c) hH (λhH=>?_)
    try simp only[Act.put,aT,aZ,aS]
    refine⟨wpAnyH_done (by kernel_rfl) ?_ _⟩
    clear hH HM Hu1 Hu2 hlt
    by_cases hc:c=0
    ·have e1:(c != 0)=false:=by simpa using hc
     have hz:=hid (hsu.out hc)
     clear hc hne hsu
     go_wp2_with fail
     go_roundw
     case rel=>exact⟨3,by omega,(by first | rfl | trivial),HN.out,hz⟩
     case measure=>simp[intOf]
    ·have e1:(c != 0)=true:=bne_iff_ne.2 hc
     have hv:=hid (hne.out hc)
     clear hc hne hsu
     go_wp2_with fail
     go_ret
     have:=HE.out _ HN.out.hb
     rwa [hv.out]at this
abbrev Lies (α : Type):=World→(Nat→Prop) → α → Array Value→Prop
structure Lies.Good {α : Type} (R:Lies α):Prop where
 keep:∀{w w':World} {F:Nat→Prop} {x:α} {c:Array Value},R w F x c→(∀p:Addr,F p.block→w'.cell? p=w.cell? p)→R w' F x c
 mono:∀{w:World} {F F':Nat→Prop} {x:α} {c:Array Value},R w F x c→(∀g,F g→F' g)→R w F' x c
variable {α : Type} {R:Lies α} {w w':World} {F F' G:Nat→Prop} {l:List α} {A:Option Addr} {n sz:Nat} {s:Value} {E:Nat}
def SRd (sz:Nat) (R:Lies α) (w:World) (F:Nat→Prop) (l:List α) (A:Option Addr) (n:Nat):Prop:=
 n=l.length∧(0<n→∃ad,A=some ad∧F ad.block∧∀i x,l[i]?=some x→∃c:Array Value,c.size=sz∧(∀j,j<sz→w.cell? (ad.add (i*sz+j))=c[j]?)∧R w F x c)
def SlR (sz:Nat) (R:Lies α) (w:World) (F:Nat→Prop) (l:List α) (s:Value):Prop:=
 ∃A cap,s = .slice A l.length cap∧l.length≤cap∧SRd sz R w F l A l.length
theorem idx_lt {l:List α} {i:Nat} {x:α} (h:l[i]?=some x):i<l.length:=(List.getElem?_eq_some_iff.1 h).1
theorem SRd.keep (hR:R.Good) (h:SRd sz R w F l A n) (hk:∀p:Addr,F p.block→w'.cell? p=w.cell? p):SRd sz R w' F l A n:=
 ⟨h.1,λhn=>by
  obtain⟨ad,e,hF,hc⟩:=h.2 hn
  refine⟨ad,e,hF,λi x hx=>?_⟩
  obtain⟨c,h1,h2,h3⟩:=hc i x hx
  exact⟨c,h1,λj hj=>(hk _ (by rw[block_of_add];exact hF)).trans (h2 j hj),hR.keep h3 hk⟩⟩
theorem SRd.mono (hR:R.Good) (h:SRd sz R w F l A n) (hF:∀g,F g→F' g):SRd sz R w F' l A n:=
 ⟨h.1,λhn=>by
  obtain⟨ad,e,hf,hc⟩:=h.2 hn
  refine⟨ad,e,hF _ hf,λi x hx=>?_⟩
  obtain⟨c,h1,h2,h3⟩:=hc i x hx
  exact⟨c,h1,h2,hR.mono h3 hF⟩⟩
theorem SRd.under {B:Nat} (hR:R.Good) (h:SRd sz R w F l A n) (hb:Below B w w') (hF:∀g,F g→g<B):SRd sz R w' F l A n:=h.keep hR λ_ hp=>hb.cell (hF _ hp)
theorem SRd.drewN (hR:R.Good) (h:SRd sz R w F l A n) (m:Nat):SRd sz R (w.drewN m) F l A n:=h.keep hR λ_ _=>rfl
theorem SRd.nil (sz:Nat) (R:Lies α) (w:World) (F:Nat→Prop) (A:Option Addr):SRd sz R w F [] A 0:=⟨rfl,λh=>absurd h (by omega)⟩
theorem SlR.nil (sz:Nat) (R:Lies α) (w:World) (F:Nat→Prop):SlR sz R w F [] (.slice none 0 0):=⟨none,0,rfl,Nat.le_refl _,SRd.nil ..⟩
theorem SlR.keep (hR:R.Good) (h:SlR sz R w F l s) (hk:∀p:Addr,F p.block→w'.cell? p=w.cell? p):SlR sz R w' F l s:=by
 obtain⟨A,cap,e,hc,h⟩:=h
 exact⟨A,cap,e,hc,h.keep hR hk⟩
theorem SlR.mono (hR:R.Good) (h:SlR sz R w F l s) (hF:∀g,F g→F' g):SlR sz R w F' l s:=by
 obtain⟨A,cap,e,hc,h⟩:=h
 exact⟨A,cap,e,hc,h.mono hR hF⟩
theorem SlR.under {B:Nat} (hR:R.Good) (h:SlR sz R w F l s) (hb:Below B w w') (hF:∀g,F g→g<B):SlR sz R w' F l s:=h.keep hR λ_ hp=>hb.cell (hF _ hp)
theorem SlR.turn {S:Nat→Prop} (hR:R.Good) (h:SlR sz R w F l s) (ht:Turn S w w') (hl:∀g,F g→g<w.heap.size) (hS:∀g,F g→¬S g):SlR sz R w' F l s:=h.keep hR λ_ hp=>ht.cell (hl _ hp) (hS _ hp)
theorem SRd.at_ (h:SRd sz R w F l A n) {i:Nat} {x:α} (hx:l[i]?=some x):∃ad c,A=some ad∧F ad.block∧c.size=sz∧(∀j,j<sz→w.cell? (ad.add (i*sz+j))=c[j]?)∧R w F x c:=by
 have hi:=idx_lt hx
 obtain⟨ad,e,hF,hc⟩:=h.2 (by rw[h.1];omega)
 obtain⟨c,h1,h2,h3⟩:=hc i x hx
 exact⟨ad,c,e,hF,h1,h2,h3⟩
def flatC (cs:Nat→Array Value) (n:Nat):List Value:=(List.range n).flatMap λi=>(cs i).toList
theorem flatC_succ (cs:Nat→Array Value) (n:Nat):flatC cs (n+1)=flatC cs n++(cs n).toList:=by unfold flatC;rw[List.range_succ];simp
theorem flatC_congr {cs ds:Nat→Array Value} {n:Nat} (h:∀i,i<n→cs i=ds i):flatC cs n=flatC ds n:=by
 unfold flatC
 rw[List.flatMap_def,List.flatMap_def,List.map_congr_left λi hi=>by rw[h i (List.mem_range.1 hi)]]
theorem flatC_length {cs:Nat→Array Value} {n sz:Nat} (h:∀i,i<n→(cs i).size=sz):(flatC cs n).length=n*sz:=by
 induction n with
 | zero=>simp[flatC]
 | succ n ih=>rw[flatC_succ,List.length_append,ih (λi hi=>h i (by omega)),Array.length_toList,h n (by omega),Nat.succ_mul]
theorem flatC_at {cs:Nat→Array Value} {n i j sz:Nat} (h:∀i,i<n→(cs i).size=sz) (hi:i<n) (hj:j<sz):(flatC cs n)[i*sz+j]?=(cs i)[j]?:=by
 induction n with
 | zero=>omega
 | succ n ih=>
  have hl:=flatC_length (cs:=cs) (n:=n) (sz:=sz) (λi hi=>h i (by omega))
  rw[flatC_succ]
  by_cases hin:i=n
  ·subst hin
   rw[List.getElem?_append_right (by omega),hl,Nat.add_sub_cancel_left]
   simp
  ·have h1:(i+1)*sz≤n*sz:=Nat.mul_le_mul_right sz (by omega)
   rw[Nat.succ_mul]at h1
   rw[List.getElem?_append_left (by omega)]
   exact ih (λi hi=>h i (by omega)) (by omega)
def SOwn (E sz:Nat) (R:Lies α) (w:World) (F:Nat→Prop) (l:List α) (s:Value):Prop:=
 ∃cs:Nat→Array Value,w.ownsRow 0 E sz s l.length (flatC cs l.length)∧(∀i,i<l.length→(cs i).size=sz)∧(∀g,s.ownBlock=some g→F g) ∧
  ∀i x,l[i]?=some x→R w (λb=>F b∧s.ownBlock≠some b) x (cs i)
theorem SOwn.form (h:SOwn E sz R w F l s):∃A cap,s = .slice A l.length cap:=by
 obtain⟨cs,hrow,_⟩:=h
 exact slice_form hrow
theorem SOwn.nil (E sz:Nat) (R:Lies α) (w:World) (F:Nat→Prop):SOwn E sz R w F [] (.slice none 0 0):=
 ⟨λ_=>#[],World.ownsRow_nil _ _ _ _,(λ_ hi=>absurd hi (Nat.not_lt_zero _)),(λg hg=>by cases hg),(λi x hx=>by simp at hx)⟩
theorem SOwn.turn {S:Nat→Prop} (hR:R.Good) (h:SOwn E sz R w F l s) (ht:Turn S w w') (hl:∀b,F b→b<w.heap.size) (hS:∀b,F b→¬S b):SOwn E sz R w' F l s:=by
 obtain⟨cs,hrow,h6,hF,hr⟩:=h
 exact⟨cs,ht.owns hrow (λg hg=>hS g (hF g hg)),h6,hF,λi x hx=>hR.keep (hr i x hx) λp hp=>ht.cell (hl _ hp.1) (hS _ hp.1)⟩
theorem SOwn.mono (hR:R.Good) (h:SOwn E sz R w F l s) (hF:∀b,F b→F' b):SOwn E sz R w F' l s:=by
 obtain⟨cs,hrow,h6,hF0,hr⟩:=h
 exact⟨cs,hrow,h6,λg hg=>hF g (hF0 g hg),λi x hx=>hR.mono (hr i x hx) λg hg=>⟨hF g hg.1,hg.2⟩⟩
theorem owned_cap {base e size:Nat} {A:Option Addr} {n cap:Nat} {xs:List Value} (h:w.ownsRow base e size (.slice A n cap) n xs):n≤cap:=by
 rcases h.2 with⟨h0,h1⟩ | ⟨g,cp,cur,h0,_,_,h1,_⟩
 ·injection h0 with _ h2 h3;omega
 ·injection h0 with _ _ h3;omega
theorem SOwn.rd (hR:R.Good) (h:SOwn E sz R w F l s):SlR sz R w F l s:=by
 obtain⟨A,cap,rfl⟩:=h.form
 obtain⟨cs,hrow,h6,hF,hr⟩:=h
 refine⟨A,cap,rfl,owned_cap hrow,rfl,λhn=>?_⟩
 obtain⟨g,cp,hv,_,_⟩:=hrow.form hn
 injection hv with hv _ hcp
 subst hv
 subst hcp
 refine⟨⟨g,0,none⟩,rfl,hF g rfl,λi x hx=>?_⟩
 have hi:=idx_lt hx
 refine⟨cs i,h6 i hi,λj hj=>?_,hR.mono (hr i x hx) λ_ h=>h.1⟩
 have hij:i*sz+j<l.length*sz:=by
  have h1:(i+1)*sz≤l.length*sz:=Nat.mul_le_mul_right sz (by omega)
  rw[Nat.succ_mul]at h1
  omega
 have h1:=hrow.cellAt (i*sz+j) hij
 rw[flatC_at h6 hi hj]at h1
 rw[←h1]
 unfold Addr.add
 split<;>simp_all
theorem SOwn.snoc {w5 w6:World} {x:α} {c:Array Value} {g4 c4:Nat} (hR:R.Good) (h:SOwn E sz R w5 F l s) (hx:R w5 G x c) (hc:c.size=sz)
    (hGs:∀b,G b→s.ownBlock≠some b) (hFl:∀b,F b→b<w5.heap.size) (hGl:∀b,G b→b<w5.heap.size)
    (ho:∀cs:Nat→Array Value,w5.ownsRow 0 E sz s l.length (flatC cs l.length)→w6.ownsRow 0 E sz (.slice (some ⟨g4,0,none⟩) (l.length+1) c4) (l.length+1) (flatC cs l.length++c.toList)) (hg:w5.grownBy w6 s.ownBlock) (hl:s.ownBlock=some g4∨w5.heap.size≤g4) :
    SOwn E sz R w6 (λb=>F b∨G b∨b=g4) (l++[x]) (.slice (some ⟨g4,0,none⟩) (l.length+1) c4):=by
 obtain⟨cs,hrow,h6,hF,hr⟩:=h
 have hlen:(l++[x]).length=l.length+1:=by simp
 have hcs:∀i,i<l.length→(λi=>if i<l.length then cs i else c) i=cs i:=λi hi=>if_pos hi
 have hFn:∀b,F b→s.ownBlock≠some b→b≠g4:=λb hb h2 e=>by
  rcases hl with h | h
  ·exact h2 (by rw[h,e])
  ·have:=hFl b hb;omega
 have hGn:∀b,G b→b≠g4:=λb hb e=>by
  rcases hl with h | h
  ·exact hGs b hb (by rw[h,e])
  ·have:=hGl b hb;omega
 refine⟨λi=>if i<l.length then cs i else c,?_,λi hi=>?_,λg hg'=>?_,λi y hy=>?_⟩
 ·rw[hlen,flatC_succ,flatC_congr hcs,if_neg (Nat.lt_irrefl _)]
  exact ho cs hrow
 ·by_cases h:i<l.length
  ·simp only[if_pos h];exact h6 i h
  ·simp only[if_neg h];exact hc
 ·injection hg' with hg'
  exact .inr (.inr hg'.symm)
 ·by_cases h:i<l.length
  ·simp only[if_pos h]
   rw[List.getElem?_append_left h]at hy
   refine hR.mono (hR.keep (hr i y hy) (w':=w6) λp hp=>(Turn.of_grown hg).cell (hFl _ hp.1) λe=>hp.2 e.symm) λb hb=>⟨.inl hb.1,λe=>?_⟩
   injection e with e
   exact hFn b hb.1 hb.2 e.symm
  ·simp only[if_neg h]
   have hi:i=l.length:=by
    have:=idx_lt hy
    omega
   subst hi
   simp at hy
   subst hy
   refine hR.mono (hR.keep hx (w':=w6) λp hp=>(Turn.of_grown hg).cell (hGl _ hp) λe=>hGs _ hp e.symm) λb hb=>⟨.inr (.inl hb),λe=>?_⟩
   injection e with e
   exact hGn b hb e.symm
def TxR:Lies ByteArray:=λ_ _ t c=>c=#[.string t]
theorem TxR.good:TxR.Good:=⟨λh _=>h,λh _=>h⟩
def IxR:Lies Int:=λ_ _ t c=>c=#[.int .i64 t]
theorem IxR.good:IxR.Good:=⟨λh _=>h,λh _=>h⟩
end Go.Proofs.YtefhfadjajcmkaaGreatDoor
