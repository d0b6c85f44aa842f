/- The amount that digits say, in words. -/
import Derived.Test.YtefhfadjajcmkaaGreatDoorH3
import Derived.Test.YtefhfadjajcmkaaGreatDoorSH
import Derived.Lib.AppendIntMem
import Derived.Deep.MidRow
import Derived.Laws.Tables
import Derived.Lib.AtoiErrMem
set_option linter.unusedVariables false
set_option linter.unusedSimpArgs false
set_option maxRecDepth 100000
set_option maxHeartbeats 64000000
namespace Go.Proofs.YtefhfadjajcmkaaGreatDoor
open Go.Lib (cell_of_heap)
section
open Go
def ui_:ByteArray:=⟨#[48,46,48]⟩
def H_ (v:h_):ByteArray:=if v.kind=2 then b1_ v.num else if c1_ v.text=true then v.text else ui_
def n_ (k:Int):Int:=
 if k=5 then 1 else if k=6 then 2 else if k=7 then 3 else if k=9 then 4 else if k=8 then 5 else if k=10 then 6 else if k=4 then 7 else if k=1 then 8 else if k=2 then 9 else if k=3 then 9 else if k=0 then 0 else 11
abbrev J5_:=Int×Int×Int×List UInt8×List UInt8
def Eb_:J5_->J5_->Int:=λp q=>au_ (cw_ p.1 q.1) (au_ (cw_ p.2.1 q.2.1) (au_ (cw_ p.2.2.1 q.2.2.1) (au_ (cn_ p.2.2.2.1 q.2.2.2.1) (cn_ p.2.2.2.2 q.2.2.2.2))))
theorem co_:j1_ Eb_:=ej_.prod (ej_.prod (ej_.prod (ot_.prod ot_)))
def il_ (v:h_):Int:=if v.kind=2\/v.kind=3 then h7_ (H_ v) else if v.kind=6\/v.kind=7 then v.num else if v.kind=1 then (if v.truth=true then 1 else 0) else 0
def jj_ (v:h_):Int:=if v.kind=2\/v.kind=3 then v.kind else 0
def im_ (k:Int):Bool:=decide (k=1\/k=2\/k=5\/k=6\/k=7)
def kr_ (v:h_):List UInt8:=if im_ v.kind=true then [] else v.text.data.toList
def l0_ (v:h_):List UInt8:=if im_ v.kind=true\/v.kind=3 then [] else v.extra.data.toList
def w5_ (v:h_):J5_:=(n_ v.kind,il_ v,jj_ v,kr_ v,l0_ v)
def G_ (a b:h_):Int:=Eb_ (w5_ a) (w5_ b)
theorem df_ (a:h_):G_ a a=0:=co_.refl _
theorem fe_ (a b:h_):G_ b a = -G_ a b:=co_.anti _ _
theorem ks_ (a b:h_):G_ a b = -1\/G_ a b=0\/G_ a b=1:=co_.val _ _
theorem b2_ {x y:Int} (h:x≠0):au_ x y=x:=by unfold au_;rw[if_neg h]
theorem S_ (y:Int):au_ 0 y=y:=rfl
theorem i3_ (a:Int):cw_ a a=0:=ej_.refl a
theorem l1_ (a:List UInt8):cn_ a a=0:=ot_.refl a
theorem Aa_ (s t:ByteArray):ey_ s t=cw_ (h7_ s) (h7_ t):=rfl
theorem uj_ (x:Int):au_ x 0=x:=by unfold au_;split<;>omega
theorem q2_ {a b:h_} (h:n_ a.kind≠n_ b.kind):G_ a b=cw_ (n_ a.kind) (n_ b.kind):=by show au_ (cw_ (n_ a.kind) (n_ b.kind)) _=_;exact b2_ λc=>h ((ej_.eqv _ _).1 c)
theorem l2_ {a b:h_} (h:n_ a.kind=n_ b.kind):G_ a b=au_ (cw_ (il_ a) (il_ b)) (au_ (cw_ (jj_ a) (jj_ b)) (au_ (cn_ (kr_ a) (kr_ b)) (cn_ (l0_ a) (l0_ b)))):=by show au_ (cw_ (n_ a.kind) (n_ b.kind)) _=_;rw[h,i3_];rfl
theorem q3_ {k:Int}:n_ k=9↔k=2\/k=3:=by
 unfold n_;constructor
 ·intro h;repeat' split at h
  all_goals omega
 ·intro h;repeat' split
  all_goals omega
def Lf_ (r:Int):Int:=if r=1 then 5 else if r=2 then 6 else if r=3 then 7 else if r=4 then 9 else if r=5 then 8 else if r=6 then 10 else if r=7 then 4 else if r=8 then 1 else 0
theorem ow_ (k:Int):(n_ k=9/\(k=2\/k=3))\/n_ k=11\/(n_ k≠9/\n_ k≠11/\k=Lf_ (n_ k)):=by
 by_cases j:k=5
 ·subst j;right;right;decide
 by_cases c:k=6
 ·subst c;right;right;decide
 by_cases m:k=7
 ·subst m;right;right;decide
 by_cases h:k=9
 ·subst h;right;right;decide
 by_cases e:k=8
 ·subst e;right;right;decide
 by_cases b:k=10
 ·subst b;right;right;decide
 by_cases d:k=4
 ·subst d;right;right;decide
 by_cases h1:k=1
 ·subst h1;right;right;decide
 by_cases f:k=2
 ·subst f;left;decide
 by_cases i:k=3
 ·subst i;left;decide
 by_cases h0:k=0
 ·subst h0;right;right;decide
 right;left;unfold n_;rw[if_neg j,if_neg c,if_neg m,if_neg h,if_neg e,if_neg b,if_neg d,if_neg h1,if_neg f,if_neg i,if_neg h0]
theorem l3_ {j k:Int} (h:n_ j=n_ k):j=k\/((j=2\/j=3)/\(k=2\/k=3))\/(n_ j=11/\n_ k=11):=by
 rcases ow_ j with h1 | h1 | h1
 ·rcases ow_ k with b | b | b
  ·exact .inr (.inl ⟨h1.2,b.2⟩)
  ·omega
  ·exact absurd (h▸h1.1) b.1
 ·exact .inr (.inr ⟨h1,h▸h1⟩)
 ·rcases ow_ k with b | b | b
  ·exact absurd (h.trans b.1) h1.1
  ·exact absurd (h.trans b) h1.2.1
  ·left;rw[h1.2.2,b.2.2,h]
theorem kt_ {a b:h_} (d:a.kind=2\/a.kind=3) (hb:b.kind=2\/b.kind=3) :
    G_ a b=au_ (ey_ (H_ a) (H_ b)) (au_ (cw_ a.kind b.kind) (if a.kind=3 then cn_ a.text.data.toList b.text.data.toList else 0)):=by
 rw[l2_ ((q3_.2 d).trans (q3_.2 hb).symm),Aa_];have j:il_ a=h7_ (H_ a):=by unfold il_;rw[if_pos d]
 have f:il_ b=h7_ (H_ b):=by unfold il_;rw[if_pos hb]
 have i:jj_ a=a.kind:=by unfold jj_;rw[if_pos d]
 have k:jj_ b=b.kind:=by unfold jj_;rw[if_pos hb]
 rw[j,f,i,k];congr 1
 by_cases c:a.kind=b.kind
 ·rw[c,i3_,S_,S_];unfold kr_ l0_ im_;rw[c];rcases hb with hb | hb
  ·rw[hb];simp only[Int.reduceEq,decide_true,true_or,or_true,if_true,if_false];rw[l1_];rfl
  ·rw[hb];have e:decide ((3:Int)=1\/(3:Int)=2\/(3:Int)=5\/(3:Int)=6\/(3:Int)=7)=false:=by decide
   rw[e,if_neg Bool.false_ne_true,if_neg Bool.false_ne_true,if_pos rfl,if_pos (.inr rfl),if_pos (.inr rfl),l1_,uj_]
 ·rw[b2_ (λh=>c ((ej_.eqv _ _).1 h)),b2_ (λh=>c ((ej_.eqv _ _).1 h))]
theorem Ab_ {a b:h_} (c:a.kind=1) (hb:b.kind=1):G_ a b=cw_ (if a.truth=true then 1 else 0) (if b.truth=true then 1 else 0):=by
 rw[l2_ (by rw[c,hb])];have h:il_ a=if a.truth=true then 1 else 0:=by unfold il_;rw[if_neg (by omega),if_neg (by omega),if_pos c]
 have e:il_ b=if b.truth=true then 1 else 0:=by unfold il_;rw[if_neg (by omega),if_neg (by omega),if_pos hb]
 have f:jj_ a=0:=by unfold jj_;rw[if_neg (by omega)]
 have i:jj_ b=0:=by unfold jj_;rw[if_neg (by omega)]
 have d:im_ 1=true:=by decide
 have j:kr_ a=[]:=by unfold kr_;rw[c,if_pos d]
 have k:kr_ b=[]:=by unfold kr_;rw[hb,if_pos d]
 have p:l0_ a=[]:=by unfold l0_;rw[c,if_pos (.inl d)]
 have m:l0_ b=[]:=by unfold l0_;rw[hb,if_pos (.inl d)]
 rw[h,e,f,i,j,k,p,m,i3_,l1_,S_,S_,uj_]
theorem i4_ {a b:h_} (h:n_ a.kind=n_ b.kind) (c:im_ a.kind=false) (d:a.kind≠3):G_ a b=au_ (cn_ a.text.data.toList b.text.data.toList) (cn_ a.extra.data.toList b.extra.data.toList):=by
 have j:∀k:Int,im_ k=false->k≠1/\k≠2/\k≠5/\k≠6/\k≠7:=λk m=>by
  unfold im_ at m;have:=of_decide_eq_false m;omega
 have z:=j _ c
 have hb:im_ b.kind=false/\b.kind≠3:=by
  rcases l3_ h with e | e | e
  ·rw[<-e];exact⟨c,d⟩
  ·omega
  ·have i:=e.2;have:b.kind≠1/\b.kind≠2/\b.kind≠5/\b.kind≠6/\b.kind≠7/\b.kind≠3:=by refine⟨?_,?_,?_,?_,?_,?_⟩<;>(intro f;exfalso;rw[f]at i;revert i;decide)
   refine⟨?_,this.2.2.2.2.2⟩;unfold im_;exact decide_eq_false (by omega)
 have B:=j _ hb.1;rw[l2_ h];have q:il_ a=0:=by unfold il_;rw[if_neg (by omega),if_neg (by omega),if_neg (by omega)]
 have p:il_ b=0:=by unfold il_;rw[if_neg (by omega),if_neg (by omega),if_neg (by omega)]
 have f:jj_ a=0:=by unfold jj_;rw[if_neg (by omega)]
 have r:jj_ b=0:=by unfold jj_;rw[if_neg (by omega)]
 have v:kr_ a=a.text.data.toList:=by unfold kr_;rw[c,if_neg Bool.false_ne_true]
 have x:kr_ b=b.text.data.toList:=by unfold kr_;rw[hb.1,if_neg Bool.false_ne_true]
 have t:l0_ a=a.extra.data.toList:=by unfold l0_;rw[c,if_neg (by simpa using d)]
 have y:l0_ b=b.extra.data.toList:=by unfold l0_;rw[hb.1,if_neg (by simpa using hb.2)]
 rw[q,p,f,r,v,x,t,y,i3_,S_,S_]
def Y_ (v:h_):Prop:=K_ v 0=true/\(v.kind=1\/v.kind=2\/v.kind=3\/v.kind=4\/v.kind=8\/v.kind=9\/v.kind=10) /\ -9223372036854775808<=v.num/\v.num<=9223372036854775807
theorem ox_ {s t:ByteArray} (h:s.data.toList=t.data.toList):s=t:=ByteArray.ext (Array.toList_inj.1 h)
theorem ef_ {k:Int} {b:Bool} {n:Int} {t x:ByteArray} {l:List h_} {c:Bool} {f:Int} {d e:ByteArray} (h:bh_ k b n t x l c f d e=true) (i:k≠5):b=c/\n=f/\t=d/\x=e/\l=[]:=by
 unfold bh_ at h;simp only[Bool.and_eq_true,beq_iff_eq,decide_eq_true_eq,Bool.or_eq_true,List.length_eq_zero_iff]at h;refine⟨h.1,h.2.1,h.2.2.1,h.2.2.2.1,?_⟩;rcases h.2.2.2.2 with h | h
 ·exact h
 ·exact absurd h i
theorem bp_ {v:h_} (h:Y_ v) :
    (v.kind=1/\v = .mk 1 v.truth 0 ⟨#[]⟩ ⟨#[]⟩ [])\/(v.kind=2/\v = .mk 2 false v.num ⟨#[]⟩ ⟨#[]⟩ [])\/(v.kind=3/\c1_ v.text=true/\v = .mk 3 false 0 v.text ⟨#[]⟩ []) \/
    ((v.kind=4\/v.kind=8\/v.kind=9\/v.kind=10)/\v = .mk v.kind false 0 v.text v.extra []):=by
 obtain⟨h1,c,_,_⟩:=h
 cases v with
 | mk k b n t x l=>
 unfold K_ at h1;simp only[h_.kind,h_.truth,h_.num,h_.text,h_.extra]at c ⊢;rcases c with rfl | rfl | rfl | rfl | rfl | rfl | rfl
 ·simp only[Int.reduceEq,if_true,if_false]at h1;obtain⟨_,rfl,rfl,rfl,rfl⟩:=ef_ h1 (by decide);exact .inl ⟨rfl,rfl⟩
 ·simp only[Int.reduceEq,if_true,if_false]at h1;obtain⟨rfl,_,rfl,rfl,rfl⟩:=ef_ h1 (by decide);exact .inr (.inl ⟨rfl,rfl⟩)
 ·simp only[Int.reduceEq,if_true,if_false,Bool.and_eq_true]at h1;obtain⟨rfl,rfl,_,rfl,rfl⟩:=ef_ h1.2 (by decide);exact .inr (.inr (.inl ⟨rfl,h1.1,rfl⟩))
 ·simp only[Int.reduceEq,if_true,if_false,Bool.and_eq_true]at h1;obtain⟨rfl,rfl,_,rfl,rfl⟩:=ef_ h1.2 (by decide);exact .inr (.inr (.inr ⟨.inl rfl,rfl⟩))
 ·simp only[Int.reduceEq,if_true,if_false,Bool.and_eq_true]at h1;obtain⟨rfl,rfl,_,rfl,rfl⟩:=ef_ h1.2 (by decide);exact .inr (.inr (.inr ⟨.inr (.inl rfl),rfl⟩))
 ·simp only[Int.reduceEq,if_true,if_false,Bool.and_eq_true]at h1;obtain⟨rfl,rfl,_,rfl,rfl⟩:=ef_ h1.2 (by decide);exact .inr (.inr (.inr ⟨.inr (.inr (.inl rfl)),rfl⟩))
 ·simp only[Int.reduceEq,if_true,if_false,Bool.and_eq_true]at h1;obtain⟨rfl,rfl,_,_,rfl⟩:=ef_ h1.2.2 (by decide);exact .inr (.inr (.inr ⟨.inr (.inr (.inr rfl)),rfl⟩))
theorem e6_ {a b:h_} (v:Y_ a) (hb:Y_ b) (h:G_ a b=0):a=b:=by
 have y:=(co_.eqv _ _).1 h;unfold w5_ at y;simp only[Prod.mk.injEq]at y;obtain⟨C,i,r,q,z⟩:=y
 have x:a.kind=b.kind:=by
  rcases l3_ C with e | e | e
  ·exact e
  ·unfold jj_ at r;rw[if_pos e.1,if_pos e.2]at r;exact r
  ·have t:=e.1;rcases v.2.1 with m | m | m | m | m | m | m<;>(exfalso;rw[m]at t;revert t;decide)
 rcases bp_ v with⟨j,p⟩ | ⟨j,p⟩ | ⟨j,D,p⟩ | ⟨j,p⟩
 ·rcases bp_ hb with⟨c,d⟩ | ⟨c,d⟩ | ⟨c,B,d⟩ | ⟨c,d⟩
  ·unfold il_ at i;rw[j,c]at i;simp only[Int.reduceEq,or_self,if_true,if_false]at i;have:a.truth=b.truth:=by cases h1:a.truth<;>cases t:b.truth<;>rw[h1,t]at i<;>first | rfl | (exfalso;revert i;decide)
   rw[p,d,this]
  all_goals omega
 ·rcases bp_ hb with⟨c,d⟩ | ⟨c,d⟩ | ⟨c,B,d⟩ | ⟨c,d⟩
  ·omega
  ·unfold il_ at i;rw[if_pos (.inl j),if_pos (.inl c)]at i;unfold H_ at i;rw[if_pos j,if_pos c,hl_ v.2.2.1 v.2.2.2,hl_ hb.2.2.1 hb.2.2.2]at i;have:a.num=b.num:=by omega
   rw[p,d,this]
  all_goals omega
 ·rcases bp_ hb with⟨c,d⟩ | ⟨c,d⟩ | ⟨c,B,d⟩ | ⟨c,d⟩
  ·omega
  ·omega
  ·unfold kr_ at q;rw[j,c]at q;have:a.text=b.text:=ox_ q;rw[p,d,this]
  ·omega
 ·rcases bp_ hb with⟨c,d⟩ | ⟨c,d⟩ | ⟨c,B,d⟩ | ⟨c,d⟩
  ·omega
  ·omega
  ·omega
  ·have f:∀k:Int,(k=4\/k=8\/k=9\/k=10)->im_ k=false:=λk y=>by unfold im_;exact decide_eq_false (by omega)
   unfold kr_ at q;unfold l0_ at z;rw[f _ j,f _ c,if_neg Bool.false_ne_true,if_neg Bool.false_ne_true]at q;rw[f _ j,f _ c,if_neg (by simp;omega),if_neg (by simp;omega)]at z;rw[p,d,x,ox_ q,ox_ z]
structure g1_ {α : Type} (o:α -> α -> Int):Prop where
 val:∀a b,o a b = -1\/o a b=0\/o a b=1
 anti:∀a b,o b a = -o a b
 trans:∀a b d,o a b<=0->o b d<=0->o a d<=0
 zero:∀a b d,o a b=0->o a d=o b d
theorem j1_.pre {α K:Type} {c:K->K->Int} (h:j1_ c) (k:α -> K):g1_ (λa b=>c (k a) (k b)) where
 val a b:=h.val _ _
 anti a b:=h.anti _ _
 trans a b d:=h.trans _ _ _
 zero a b d h0:=by have:=(h.eqv _ _).1 h0;show c (k a) (k d)=c (k b) (k d);rw[this]
section
variable {α : Type} {o:α -> α -> Int}
theorem g1_.refl (h:g1_ o) (a:α):o a a=0:=by have:=h.anti a a;omega
theorem g1_.zero' (h:g1_ o) {a b:α} (d:α) (h0:o a b=0):o d a=o d b:=by have:=h.zero a b d h0;have:=h.anti a d;have:=h.anti b d;omega
theorem g1_.lt_trans (h:g1_ o) {a b d:α} (h1:o a b<0) (e:o b d<=0):o a d<0:=by
 have f:=h.trans a b d (by omega) e;rcases Int.lt_or_eq_of_le f with c | c
 ·exact c
 ·have i:=h.zero' b c;have:=h.anti a b;omega
theorem g1_.trans_lt (h:g1_ o) {a b d:α} (h1:o a b<=0) (f:o b d<0):o a d<0:=by
 have e:=h.trans a b d h1 (by omega);rcases Int.lt_or_eq_of_le e with c | c
 ·exact c
 ·have i:=h.zero a d b c;have:=h.anti b d;have:=h.anti a b;omega
abbrev j2_ (o:α -> α -> Int) (l:List α):Prop:=l.Pairwise λa b=>o a b<0
theorem in_ (h:g1_ o):∀{l m:List α},j2_ o l->j2_ o m->(∀x,x∈l↔x∈m)->l=m
 | [],[],_,_,_=>rfl
 | [],b::m,_,_,he=>absurd ((he b).2 List.mem_cons_self) (by simp)
 | a::l,[],_,_,he=>absurd ((he a).1 List.mem_cons_self) (by simp)
 | a::l,b::m,hl,hm,he=>by
  obtain⟨la,k⟩:=List.pairwise_cons.1 hl;obtain⟨f,j⟩:=List.pairwise_cons.1 hm
  have i:a=b:=by
   rcases List.mem_cons.1 ((he a).1 List.mem_cons_self) with e | e
   ·exact e
   ·rcases List.mem_cons.1 ((he b).2 List.mem_cons_self) with d | d
    ·exact d.symm
    ·have h1:=f a e;have p:=la b d;have:=h.anti a b;omega
  subst i;congr 1
  refine in_ h k j λx=>?_;constructor
  ·intro c;rcases List.mem_cons.1 ((he x).1 (List.mem_cons_of_mem _ c)) with e | e
   ·subst e;have:=la x c;have:=h.refl x;omega
   ·exact e
  ·intro c;rcases List.mem_cons.1 ((he x).2 (List.mem_cons_of_mem _ c)) with e | e
   ·subst e;have:=f x c;have:=h.refl x;omega
   ·exact e
def dm_ (o:α -> α -> Int) (v:α):List α -> Nat->Nat
 | _,0=>0
 | l,k+1=>match l[k]? with
  | some x=>if 0<o x v then dm_ o v l k else k+1
  | none=>k+1
def qd_ (o:α -> α -> Int) (l:List α) (v:α):List α:=
 let k:=dm_ o v l l.length
 if 0<k/\(∃x,l[k-1]?=some x/\o x v=0) then l else l.take k++v::l.drop k
theorem Ec_ (v:α) (l:List α) (k:Nat):dm_ o v l k<=k:=by
 induction k with
 | zero=>exact Nat.le_refl _
 | succ k b=>
  unfold dm_;split
  ·split
   ·omega
   ·omega
  ·omega
theorem uk_ (v:α) (l:List α) (k:Nat):∀j x,dm_ o v l k<=j->j<k->l[j]?=some x->0<o x v:=by
 induction k with
 | zero=>intro j x _ h;omega
 | succ k c=>
  intro j x h1 d b;unfold dm_ at h1;by_cases e:j=k
  ·subst e;rw[b]at h1;simp only at h1;split at h1
   ·assumption
   ·omega
  ·split at h1
   ·split at h1
    ·exact c j x h1 (by omega) b
    ·omega
   ·omega
theorem ul_ (v:α) (l:List α) (k:Nat):∀x,0<dm_ o v l k->l[dm_ o v l k-1]?=some x->o x v<=0:=by
 induction k with
 | zero=>intro x h;unfold dm_ at h;omega
 | succ k c=>
  intro x;unfold dm_;split
  ·rename_i y b;split
   ·exact c x
   ·intro _ h;rw[Nat.add_sub_cancel,b]at h;injection h with h;subst h;omega
  ·rename_i b;intro _ h;rw[Nat.add_sub_cancel,b]at h
   cases h
theorem Ed_ {l:List α} {v:α} (d:∀a,a∈l->o a v=0->a=v) (x:α):x∈qd_ o l v↔x∈l\/x=v:=by
 unfold qd_;simp only;split
 ·rename_i h;obtain⟨_,y,e,c⟩:=h;have b:=List.mem_of_getElem? e;have:=d y b c;subst this;constructor
  ·exact .inl
  ·rintro (h | h)
   ·exact h
   ·rw[h];exact b
 ·rw[List.mem_append,List.mem_cons];constructor
  ·rintro (h | h | h)
   ·exact .inl (List.mem_of_mem_take h)
   ·exact .inr h
   ·exact .inl (List.mem_of_mem_drop h)
  ·rintro (h | h)
   ·have:x∈l.take (dm_ o v l l.length)++l.drop (dm_ o v l l.length):=by rw[List.take_append_drop];exact h
    rcases List.mem_append.1 this with h | h
    ·exact .inl h
    ·exact .inr (.inr h)
   ·exact .inr (.inl h)
theorem Ac_ (h:g1_ o) {l:List α} {v:α} (d:j2_ o l):j2_ o (qd_ o l v):=by
 unfold qd_;simp only;split
 ·exact d
 ·rename_i p;have t:=Ec_ (o:=o) v l l.length
  have f:∀x,x∈l.take (dm_ o v l l.length)->o x v<0:=by
   intro x m;obtain⟨i,hi,rfl⟩:=List.mem_take_iff_getElem.1 m;have j:0<dm_ o v l l.length:=by omega
   have c:dm_ o v l l.length-1<l.length:=by omega
   have h1:=ul_ (o:=o) v l l.length _ j (List.getElem?_eq_getElem c)
   have r:o l[dm_ o v l l.length-1] v<0:=by
    rcases Int.lt_or_eq_of_le h1 with h1 | h1
    ·exact h1
    ·exact absurd ⟨j,_,List.getElem?_eq_getElem c,h1⟩ p
   by_cases e:i=dm_ o v l l.length-1
   ·subst e;exact r
   ·exact h.lt_trans (List.pairwise_iff_getElem.1 d i _ (by omega) c (by omega)) (by omega)
  have k:∀x,x∈l.drop (dm_ o v l l.length)->o v x<0:=by intro x m;obtain⟨i,hi,rfl⟩:=List.mem_drop_iff_getElem.1 m;have:=uk_ (o:=o) v l l.length _ _ (Nat.le_add_right _ i) (by omega) (List.getElem?_eq_getElem (by omega));have:=h.anti v l[dm_ o v l l.length+i];omega
  refine List.pairwise_append.2 ⟨List.Pairwise.sublist (List.take_sublist _ _) d,List.pairwise_cons.2 ⟨k,List.Pairwise.sublist (List.drop_sublist _ _) d⟩,?_⟩;intro a q b hb;rcases List.mem_cons.1 hb with e | e
  ·subst e;exact f a q
  ·exact h.lt_trans (f a q) (by have:=k b e;omega)
def bb_ (o:α -> α -> Int) (l:List α):List α:=l.foldl (qd_ o) []
theorem w6_ (l:List α) (v:α):bb_ o (l++[v])=qd_ o (bb_ o l) v:=by unfold bb_;rw[List.foldl_append];rfl
theorem oy_ (h:g1_ o) {l:List α} (e:∀a,a∈l->∀b,b∈l->o a b=0->a=b) (n:Nat):j2_ o (bb_ o (l.take n))/\∀x,x∈bb_ o (l.take n)↔x∈l.take n:=by
 induction n with
 | zero=>exact⟨List.Pairwise.nil,λx=>Iff.rfl⟩
 | succ n c=>
  by_cases d:n<l.length
  ·rw[List.take_succ_eq_append_getElem d,w6_];refine⟨Ac_ h c.1,λx=>?_⟩;rw[Ed_ (λa f=>e a (List.mem_of_mem_take ((c.2 a).1 f)) _ (List.getElem_mem d)),c.2 x,List.mem_append,List.mem_singleton]
  ·rw[List.take_of_length_le (by omega)];rw[List.take_of_length_le (by omega)]at c;exact c
theorem ek_ (h:g1_ o) {l:List α} (c:∀a,a∈l->∀b,b∈l->o a b=0->a=b):j2_ o (bb_ o l)/\∀x,x∈bb_ o l↔x∈l:=by have:=oy_ h c l.length;rwa [List.take_length]at this
def j3_ (o:α -> α -> Int) (p:α):List α -> List α
 | []=>[]
 | a::r=>if o a p=0 then j3_ o a r else a::j3_ o a r
def cpt (o:α -> α -> Int):List α -> List α
 | []=>[]
 | a::r=>a::j3_ o a r
theorem Ad_ (p:α) (r:List α) (x:α):j3_ o p (r++[x])=j3_ o p r++(if o x (r.getLastD p)=0 then [] else [x]):=by
 induction r generalizing p with
 | nil=>rfl
 | cons a r b=>
  rw[List.cons_append,j3_,j3_,b a,List.getLastD_cons];split<;>simp
theorem Hk_ (h:g1_ o) (p:α) (r:List α) (m:(p::r).Pairwise λa b=>¬o b a<0) (i:∀a,a∈p::r->∀b,b∈p::r->o a b=0->a=b):j2_ o (p::j3_ o p r)/\∀x,x∈p::j3_ o p r↔x∈p::r:=by
 induction r generalizing p with
 | nil=>exact⟨List.pairwise_cons.2 ⟨λ_ f=>(by cases f),List.Pairwise.nil⟩,λx=>Iff.rfl⟩
 | cons a r c=>
  obtain⟨t,j⟩:=List.pairwise_cons.1 m;have c:=c a j (λu k v q=>i u (List.mem_cons_of_mem _ k) v (List.mem_cons_of_mem _ q));unfold j3_;split
  ·rename_i h0;have:=i a (by simp) p (by simp) h0;subst this;refine⟨c.1,λx=>(c.2 x).trans ?_⟩;simp
  ·rename_i h0;have z:=t a List.mem_cons_self;have y:=h.anti a p;have d:o p a<0:=by omega
   refine⟨List.pairwise_cons.2 ⟨λx f=>?_,c.1⟩,λx=>?_⟩
   ·rcases List.mem_cons.1 f with e | e
    ·subst e;exact d
    ·exact h.lt_trans d (by have:=(List.pairwise_cons.1 c.1).1 x e;omega)
   ·rw[List.mem_cons,c.2 x];simp
theorem Ee_ (h:g1_ o) {l m:List α} (c:m.Perm l) (i:m.Pairwise λa b=>¬o b a<0) (e:∀a,a∈l->∀b,b∈l->o a b=0->a=b):cpt o m=bb_ o l:=by
 have f:=ek_ h e
 cases m with
 | nil=>
  have:=c.symm.eq_nil;subst this;rfl
 | cons p r=>
  have d:=Hk_ h p r i (λa j b hb=>e a (c.mem_iff.1 j) b (c.mem_iff.1 hb));refine in_ h d.1 f.1 λx=>?_;rw[f.2 x];exact (d.2 x).trans c.mem_iff
end
structure d_ where
 s:h_
 p:h_
 o:h_
def d_.get (t:d_) (i:Nat):h_:=if i=0 then t.s else if i=1 then t.p else t.o
structure Way where
 i:Nat
 j:Nat
 k:Nat
def Way.get (w:Way) (n:Nat):Nat:=if n=0 then w.i else if n=1 then w.j else w.k
def av_ (n:Nat):Way:=if n=0 then ⟨0,1,2⟩ else if n=1 then ⟨0,2,1⟩ else if n=2 then ⟨1,0,2⟩ else if n=3 then ⟨1,2,0⟩ else if n=4 then ⟨2,0,1⟩ else ⟨2,1,0⟩
def Way.Ok (w:Way):Prop:=(w.i=0\/w.j=0\/w.k=0)/\(w.i=1\/w.j=1\/w.k=1)/\(w.i=2\/w.j=2\/w.k=2)
theorem e7_ (n:Nat):(av_ n).Ok:=by
 unfold av_ Way.Ok;repeat' split
 all_goals simp
def A_ (w:Way) (a b:d_):Int:=au_ (G_ (a.get w.i) (b.get w.i)) (au_ (G_ (a.get w.j) (b.get w.j)) (G_ (a.get w.k) (b.get w.k)))
theorem be_ (w:Way):g1_ (A_ w):=(co_.prod (co_.prod co_)).pre λt:d_=>(w5_ (t.get w.i),w5_ (t.get w.j),w5_ (t.get w.k))
theorem el_:g1_ G_:=co_.pre w5_
structure ce_ (t:d_):Prop where
 s:Y_ t.s
 p:Y_ t.p
 o:Y_ t.o
theorem ce_.get {t:d_} (h:ce_ t) (i:Nat):Y_ (t.get i):=by
 unfold d_.get;split
 ·exact h.s
 ·split
  ·exact h.p
  ·exact h.o
theorem q4_ {x y:Int}:au_ x y=0↔x=0/\y=0:=by unfold au_;split<;>omega
theorem oz_ {w:Way} {a b:d_}:A_ w a b=0↔G_ (a.get w.i) (b.get w.i)=0/\G_ (a.get w.j) (b.get w.j)=0/\G_ (a.get w.k) (b.get w.k)=0:=by unfold A_;rw[q4_,q4_]
theorem um_ {w:Way} (f:w.Ok) {a b:d_} (h1:a.get w.i=b.get w.i) (c:a.get w.j=b.get w.j) (d:a.get w.k=b.get w.k):a=b:=by
 have h:∀n,n=0\/n=1\/n=2->a.get n=b.get n:=by
  unfold Way.Ok at f;intro n r;rcases r with rfl | rfl | rfl
  ·rcases f.1 with e | e | e
   ·rw[e]at h1;exact h1
   ·rw[e]at c;exact c
   ·rw[e]at d;exact d
  ·rcases f.2.1 with e | e | e
   ·rw[e]at h1;exact h1
   ·rw[e]at c;exact c
   ·rw[e]at d;exact d
  ·rcases f.2.2 with e | e | e
   ·rw[e]at h1;exact h1
   ·rw[e]at c;exact c
   ·rw[e]at d;exact d
 have q:=h 0 (by simp);have m:=h 1 (by simp);have p:=h 2 (by simp)
 cases a
 cases b;simp only[d_.get]at q m p;simp at q m p;rw[q,m,p]
theorem io_ {w:Way} (e:w.Ok) {a b:d_} (c:ce_ a) (hb:ce_ b) (h:A_ w a b=0):a=b:=by obtain⟨h1,d,f⟩:=oz_.1 h;exact um_ e (e6_ (c.get _) (hb.get _) h1) (e6_ (c.get _) (hb.get _) d) (e6_ (c.get _) (hb.get _) f)
noncomputable def dh_ (t:d_):Bool:=K_ t.s 0&&(K_ t.p 0&&(K_ t.o 0&&(decide (t.p.kind=8)&&(decide (t.s.kind=8\/t.s.kind=9)&&decide (t.o.kind=8\/t.o.kind=9\/t.o.kind=10\/t.o.kind=4\/t.o.kind=1\/t.o.kind=2\/t.o.kind=3)))))
end
section
open Go Go.RowKit
abbrev bi_ (α : Type):=World->(Nat->Prop) -> α -> Array Value->Prop
structure bi_.Good {α : Type} (R:bi_ α):Prop where
 keep:∀{w w':World} {F:Nat->Prop} {x:α} {c:Array Value},R w F x c->(∀p:Addr,F p.block->w'.cell? p=w.cell? p)->R w' F x c
 mono:∀{w:World} {F F':Nat->Prop} {x:α} {c:Array Value},R w F x c->(∀g,F g->F' g)->R w F' x c
variable {α : Type} {R:bi_ α} {w w':World} {F F' G:Nat->Prop} {l:List α} {A:Option Addr} {n sz:Nat} {s:Value} {E:Nat}
def SRd (sz:Nat) (R:bi_ α) (w:World) (F:Nat->Prop) (l:List α) (A:Option Addr) (n:Nat):Prop:=
 n=l.length/\(0<n->∃ad,A=some ad/\F ad.block/\∀i x,l[i]?=some x->∃c:Array Value,c.size=sz/\(∀j,j<sz->w.cell? (ad.add (i*sz+j))=c[j]?)/\R w F x c)
def SlR (sz:Nat) (R:bi_ α) (w:World) (F:Nat->Prop) (l:List α) (s:Value):Prop:=
 ∃A b,s = .slice A l.length b/\l.length<=b/\SRd sz R w F l A l.length
theorem b8_ {l:List α} {i:Nat} {x:α} (h:l[i]?=some x):i<l.length:=(List.getElem?_eq_some_iff.1 h).1
theorem SRd.keep (t:R.Good) (h:SRd sz R w F l A n) (d:∀p:Addr,F p.block->w'.cell? p=w.cell? p):SRd sz R w' F l A n:=
 ⟨h.1,λf=>by
  obtain⟨ad,e,b,r⟩:=h.2 f;refine⟨ad,e,b,λi x m=>?_⟩;obtain⟨c,h1,q,v⟩:=r i x m;exact⟨c,h1,λj k=>(d _ (by rw[block_of_add];exact b)).trans (q j k),t.keep v d⟩⟩
theorem SRd.mono (m:R.Good) (h:SRd sz R w F l A n) (b:∀g,F g->F' g):SRd sz R w F' l A n:=
 ⟨h.1,λp=>by
  obtain⟨ad,e,d,k⟩:=h.2 p;refine⟨ad,e,b _ d,λi x f=>?_⟩;obtain⟨c,h1,j,q⟩:=k i x f;exact⟨c,h1,j,m.mono q b⟩⟩
theorem SRd.under {B:Nat} (b:R.Good) (h:SRd sz R w F l A n) (hb:Below B w w') (d:∀g,F g->g<B):SRd sz R w' F l A n:=h.keep b λ_ c=>hb.cell (d _ c)
theorem SRd.drewN (b:R.Good) (h:SRd sz R w F l A n) (m:Nat):SRd sz R (w.drewN m) F l A n:=h.keep b λ_ _=>rfl
theorem SRd.nil (sz:Nat) (R:bi_ α) (w:World) (F:Nat->Prop) (A:Option Addr):SRd sz R w F [] A 0:=⟨rfl,λh=>absurd h (by omega)⟩
theorem SlR.nil (sz:Nat) (R:bi_ α) (w:World) (F:Nat->Prop):SlR sz R w F [] (.slice none 0 0):=⟨none,0,rfl,Nat.le_refl _,SRd.nil ..⟩
theorem SlR.keep (c:R.Good) (h:SlR sz R w F l s) (f:∀p:Addr,F p.block->w'.cell? p=w.cell? p):SlR sz R w' F l s:=by obtain⟨A,b,e,d,h⟩:=h;exact⟨A,b,e,d,h.keep c f⟩
theorem SlR.mono (c:R.Good) (h:SlR sz R w F l s) (f:∀g,F g->F' g):SlR sz R w F' l s:=by obtain⟨A,b,e,d,h⟩:=h;exact⟨A,b,e,d,h.mono c f⟩
theorem SlR.under {B:Nat} (b:R.Good) (h:SlR sz R w F l s) (hb:Below B w w') (d:∀g,F g->g<B):SlR sz R w' F l s:=h.keep b λ_ c=>hb.cell (d _ c)
theorem SlR.turn {S:Nat->Prop} (e:R.Good) (h:SlR sz R w F l s) (d:Turn S w w') (f:∀g,F g->g<w.heap.size) (c:∀g,F g->¬S g):SlR sz R w' F l s:=h.keep e λ_ b=>d.cell (f _ b) (c _ b)
theorem SRd.at_ (h:SRd sz R w F l A n) {i:Nat} {x:α} (b:l[i]?=some x):∃ad c,A=some ad/\F ad.block/\c.size=sz/\(∀j,j<sz->w.cell? (ad.add (i*sz+j))=c[j]?)/\R w F x c:=by have hi:=b8_ b;obtain⟨ad,e,k,f⟩:=h.2 (by rw[h.1];omega);obtain⟨c,h1,d,m⟩:=f i x b;exact⟨ad,c,e,k,h1,d,m⟩
def I_ (cs:Nat->Array Value) (n:Nat):List Value:=(List.range n).flatMap λi=>(cs i).toList
theorem c8_ (cs:Nat->Array Value) (n:Nat):I_ cs (n+1)=I_ cs n++(cs n).toList:=by unfold I_;rw[List.range_succ];simp
theorem gd_ {cs ds:Nat->Array Value} {n:Nat} (h:∀i,i<n->cs i=ds i):I_ cs n=I_ ds n:=by unfold I_;rw[List.flatMap_def,List.flatMap_def,List.map_congr_left λi hi=>by rw[h i (List.mem_range.1 hi)]]
theorem al_ {cs:Nat->Array Value} {n sz:Nat} (h:∀i,i<n->(cs i).size=sz):(I_ cs n).length=n*sz:=by
 induction n with
 | zero=>simp[I_]
 | succ n b=>rw[c8_,List.length_append,b (λi hi=>h i (by omega)),Array.length_toList,h n (by omega),Nat.succ_mul]
theorem az_ {cs:Nat->Array Value} {n i j sz:Nat} (h:∀i,i<n->(cs i).size=sz) (hi:i<n) (e:j<sz):(I_ cs n)[i*sz+j]?=(cs i)[j]?:=by
 induction n with
 | zero=>omega
 | succ n d=>
  have c:=al_ (cs:=cs) (n:=n) (sz:=sz) (λi hi=>h i (by omega));rw[c8_];by_cases b:i=n
  ·subst b;rw[List.getElem?_append_right (by omega),c,Nat.add_sub_cancel_left];simp
  ·have h1:(i+1)*sz<=n*sz:=Nat.mul_le_mul_right sz (by omega);rw[Nat.succ_mul]at h1;rw[List.getElem?_append_left (by omega)];exact d (λi hi=>h i (by omega)) (by omega)
def x_ (E sz:Nat) (R:bi_ α) (w:World) (F:Nat->Prop) (l:List α) (s:Value):Prop:=
 ∃cs:Nat->Array Value,w.ownsRow 0 E sz s l.length (I_ cs l.length)/\(∀i,i<l.length->(cs i).size=sz)/\(∀g,s.ownBlock=some g->F g) /\
  ∀i x,l[i]?=some x->R w (λb=>F b/\s.ownBlock≠some b) x (cs i)
theorem x_.form (h:x_ E sz R w F l s):∃A c,s = .slice A l.length c:=by obtain⟨cs,b,_⟩:=h;exact wr_ b
theorem x_.nil (E sz:Nat) (R:bi_ α) (w:World) (F:Nat->Prop):x_ E sz R w F [] (.slice none 0 0):=
 ⟨λ_=>#[],World.ownsRow_nil _ _ _ _,(λ_ hi=>absurd hi (Nat.not_lt_zero _)),(λg c=>by cases c),(λi x b=>by simp at b)⟩
theorem x_.turn {S:Nat->Prop} (q:R.Good) (h:x_ E sz R w F l s) (e:Turn S w w') (t:∀b,F b->b<w.heap.size) (d:∀b,F b->¬S b):x_ E sz R w' F l s:=by obtain⟨cs,c,k,f,r⟩:=h;exact⟨cs,e.owns c (λg v=>d g (f g v)),k,f,λi x m=>q.keep (r i x m) λp j=>e.cell (t _ j.1) (d _ j.1)⟩
theorem x_.mono (m:R.Good) (h:x_ E sz R w F l s) (f:∀b,F b->F' b):x_ E sz R w F' l s:=by obtain⟨cs,d,j,e,p⟩:=h;exact⟨cs,d,j,λg c=>f g (e g c),λi x k=>m.mono (p i x k) λg c=>⟨f g c.1,c.2⟩⟩
theorem ff_ {c e d:Nat} {A:Option Addr} {n b:Nat} {xs:List Value} (h:w.ownsRow c e d (.slice A n b) n xs):n<=b:=by
 rcases h.2 with⟨h0,h1⟩ | ⟨g,i,f,h0,_,_,h1,_⟩
 ·injection h0 with _ h2 h3;omega
 ·injection h0 with _ _ h3;omega
theorem x_.rd (q:R.Good) (h:x_ E sz R w F l s):SlR sz R w F l s:=by
 obtain⟨A,k,rfl⟩:=h.form;obtain⟨cs,b,d,t,r⟩:=h;refine⟨A,k,rfl,ff_ b,rfl,λm=>?_⟩;obtain⟨g,v,c,_,_⟩:=b.form m;injection c with c _ hcp;subst c;subst hcp;refine⟨⟨g,0,none⟩,rfl,t g rfl,λi x e=>?_⟩;have hi:=b8_ e;refine⟨cs i,d i hi,λj p=>?_,q.mono (r i x e) λ_ h=>h.1⟩;have f:i*sz+j<l.length*sz:=by have h1:(i+1)*sz<=l.length*sz:=Nat.mul_le_mul_right sz (by omega);rw[Nat.succ_mul]at h1;omega
 have h1:=b.cellAt (i*sz+j) f;rw[az_ d hi p]at h1;rw[<-h1];unfold Addr.add;split<;>simp_all
theorem x_.snoc {w5 w6:World} {x:α} {c:Array Value} {g4 c4:Nat} (k:R.Good) (h:x_ E sz R w5 F l s) (M:R w5 G x c) (O:c.size=sz)
    (r:∀b,G b->s.ownBlock≠some b) (q:∀b,F b->b<w5.heap.size) (m:∀b,G b->b<w5.heap.size)
    (J:∀cs:Nat->Array Value,w5.ownsRow 0 E sz s l.length (I_ cs l.length)->w6.ownsRow 0 E sz (.slice (some ⟨g4,0,none⟩) (l.length+1) c4) (l.length+1) (I_ cs l.length++c.toList)) (z:w5.grownBy w6 s.ownBlock) (C:s.ownBlock=some g4\/w5.heap.size<=g4) :
    x_ E sz R w6 (λb=>F b\/G b\/b=g4) (l++[x]) (.slice (some ⟨g4,0,none⟩) (l.length+1) c4):=by
 obtain⟨cs,t,L,U,T⟩:=h;have v:(l++[x]).length=l.length+1:=by simp
 have B:∀i,i<l.length->(λi=>if i<l.length then cs i else c) i=cs i:=λi hi=>if_pos hi
 have D:∀b,F b->s.ownBlock≠some b->b≠g4:=λb hb N e=>by
  rcases C with h | h
  ·exact N (by rw[h,e])
  ·have:=q b hb;omega
 have I:∀b,G b->b≠g4:=λb hb e=>by
  rcases C with h | h
  ·exact r b hb (by rw[h,e])
  ·have:=m b hb;omega
 refine⟨λi=>if i<l.length then cs i else c,?_,λi hi=>?_,λg d=>?_,λi y f=>?_⟩
 ·rw[v,c8_,gd_ B,if_neg (Nat.lt_irrefl _)];exact J cs t
 ·by_cases h:i<l.length
  ·simp only[if_pos h];exact L i h
  ·simp only[if_neg h];exact O
 ·injection d with d;exact .inr (.inr d.symm)
 ·by_cases h:i<l.length
  ·simp only[if_pos h];rw[List.getElem?_append_left h]at f;refine k.mono (k.keep (T i y f) (w':=w6) λp j=>(Turn.of_grown z).cell (q _ j.1) λe=>j.2 e.symm) λb hb=>⟨.inl hb.1,λe=>?_⟩;injection e with e;exact D b hb.1 hb.2 e.symm
  ·simp only[if_neg h];have hi:i=l.length:=by have:=b8_ f;omega
   subst hi;simp at f;subst f;refine k.mono (k.keep M (w':=w6) λp j=>(Turn.of_grown z).cell (m _ j) λe=>r _ j e.symm) λb hb=>⟨.inr (.inl hb),λe=>?_⟩;injection e with e;exact I b hb e.symm
def TxR:bi_ ByteArray:=λ_ _ t c=>c=#[.string t]
theorem TxR.good:TxR.Good:=⟨λh _=>h,λh _=>h⟩
def IxR:bi_ Int:=λ_ _ t c=>c=#[.int .i64 t]
theorem IxR.good:IxR.Good:=⟨λh _=>h,λh _=>h⟩
structure C_ where
 key:ByteArray
 v:h_
structure i_ where
 id:Int
 labels:List ByteArray
 props:List C_
structure l_ where
 id:Int
 src:Int
 dst:Int
 type:ByteArray
 props:List C_
structure u_ where
 nodes:List i_
 edges:List l_
def b3_ (p:C_) (s:Value):Array Value:=#[.string p.key,.int .i64 p.v.kind,.bool p.v.truth,.int .i64 p.v.num,.string p.v.text,.string p.v.extra,s]
def PaR:bi_ C_:=λw F p c=>∃s,c=b3_ p s/\VRd w F p.v (.agg (c_ p.v s))
theorem PaR.good:PaR.Good:=⟨fun⟨s,e,h⟩ hk=>⟨s,e,h.keep hk⟩,fun⟨s,e,h⟩ hF=>⟨s,e,h.mono hF⟩⟩
def NoR:bi_ i_:=λw F n c=>∃L P,c=#[.int .i64 n.id,L,P]/\SlR 1 TxR w F n.labels L/\SlR 7 PaR w F n.props P
theorem NoR.good:NoR.Good:=⟨fun⟨L,P,e,h1,h2⟩ hk=>⟨L,P,e,h1.keep TxR.good hk,h2.keep PaR.good hk⟩,fun⟨L,P,e,h1,h2⟩ hF=>⟨L,P,e,h1.mono TxR.good hF,h2.mono PaR.good hF⟩⟩
def EdR:bi_ l_:=λw F e c=>∃P,c=#[.int .i64 e.id,.int .i64 e.src,.int .i64 e.dst,.string e.type,P]/\SlR 7 PaR w F e.props P
theorem EdR.good:EdR.Good:=⟨fun⟨P,e,h⟩ hk=>⟨P,e,h.keep PaR.good hk⟩,fun⟨P,e,h⟩ hF=>⟨P,e,h.mono PaR.good hF⟩⟩
def GrR (w:World) (F:Nat->Prop) (g:u_) (u:Value):Prop:=∃N E,u = .agg #[N,E]/\SlR 3 NoR w F g.nodes N/\SlR 5 EdR w F g.edges E
section
variable {w w':World} {F F':Nat->Prop} {g:u_} {u:Value}
theorem GrR.keep (h:GrR w F g u) (b:∀p:Addr,F p.block->w'.cell? p=w.cell? p):GrR w' F g u:=by obtain⟨N,E,e,h1,c⟩:=h;exact⟨N,E,e,h1.keep NoR.good b,c.keep EdR.good b⟩
theorem GrR.mono (h:GrR w F g u) (b:∀g,F g->F' g):GrR w F' g u:=by obtain⟨N,E,e,h1,c⟩:=h;exact⟨N,E,e,h1.mono NoR.good b,c.mono EdR.good b⟩
theorem GrR.under {B:Nat} (h:GrR w F g u) (hb:Below B w w') (c:∀g,F g->g<B):GrR w' F g u:=h.keep λ_ b=>hb.cell (c _ b)
end
end
section
open Go
section
open Classical
variable {α : Type} {o:α -> α -> Int}
noncomputable def ar_ (l:List α):List α:=l.foldl (λD v=>if v∈D then D else D++[v]) []
theorem em_ (l:List α) (v:α):ar_ (l++[v])=if v∈ar_ l then ar_ l else ar_ l++[v]:=by unfold ar_;rw[List.foldl_append];rfl
theorem fr_ (l:List α):∀n x,x∈ar_ (l.take n)↔x∈l.take n:=by
 intro n;induction n with
 | zero=>exact λx=>Iff.rfl
 | succ n b=>
  intro x;by_cases d:n<l.length
  ·rw[List.take_succ_eq_append_getElem d,em_];by_cases c:l[n]∈ar_ (l.take n)
   ·rw[if_pos c,b,List.mem_append,List.mem_singleton];exact⟨.inl,λh=>h.elim id λh=>by rw[h];exact (b _).1 c⟩
   ·rw[if_neg c,List.mem_append,List.mem_append,b]
  ·rw[List.take_of_length_le (by omega)];rw[List.take_of_length_le (by omega)]at b;exact b x
theorem un_ (h:g1_ o) {l:List α} (p:l.Pairwise λa b=>¬o b a<0) (m:∀a,a∈l->∀b,b∈l->o a b=0->a=b):∀n,j2_ o (ar_ (l.take n)):=by
 intro n;induction n with
 | zero=>exact List.Pairwise.nil
 | succ n c=>
  by_cases f:n<l.length
  ·rw[List.take_succ_eq_append_getElem f,em_];by_cases d:l[n]∈ar_ (l.take n)
   ·rw[if_pos d];exact c
   ·rw[if_neg d];refine List.pairwise_append.2 ⟨c,List.pairwise_singleton _ _,λa e b hb=>?_⟩;rw[List.mem_singleton]at hb;subst hb;have k:=(fr_ l n a).1 e;obtain⟨i,hi,rfl⟩:=List.mem_take_iff_getElem.1 k;have h1:=List.pairwise_iff_getElem.1 p i n (by omega) f (by omega);have q:=h.anti l[i] l[n];rcases Int.lt_or_eq_of_le (show o l[i] l[n]<=0 by omega) with j | j
    ·exact j
    ·have:=m _ (List.getElem_mem _) _ (List.getElem_mem f) j;rw[this]at e;exact absurd e d
  ·rw[List.take_of_length_le (by omega)];rw[List.take_of_length_le (by omega)]at c;exact c
theorem uo_ (h:g1_ o) {l m:List α} (c:m.Perm l) (j:m.Pairwise λa b=>¬o b a<0) (e:∀a,a∈l->∀b,b∈l->o a b=0->a=b):ar_ m=bb_ o l:=by have i:=ek_ h e;have f:=un_ h j (λa k b hb=>e a (c.mem_iff.1 k) b (c.mem_iff.1 hb)) m.length;have d:=fr_ m m.length;rw[List.take_length]at f d;exact in_ h f i.1 λx=>by rw[i.2 x,d x];exact c.mem_iff
end
theorem j4_ {K:Type} [DecidableEq K] (a:K) (r:List K) (x:K):place (a::r) x=if a=x then 0 else place r x+1:=by
 unfold place;rw[List.idxOf_cons];by_cases e:a=x
 ·simp[e]
 ·rw[if_neg e,show (a==x)=false from beq_eq_false_iff_ne.2 e];rfl
def txV (s:ByteArray):h_:=.mk 4 false 0 s ⟨#[]⟩ []
def sV:ByteArray:=⟨#[118]⟩
def sX:ByteArray:=⟨#[120]⟩
def ne_:ByteArray:=⟨#[73,114,105]⟩
def o0_:ByteArray:=⟨#[66,108,97,110,107]⟩
def Ef_:ByteArray:=⟨#[76,105,116]⟩
def Eg_:ByteArray:=⟨#[86,97,108]⟩
def E_ (b:Int) (v:h_):i_:=
 if v.kind=8 then ⟨b,[ne_],[⟨sV,txV v.text⟩]⟩ else if v.kind=9 then ⟨b,[o0_],[⟨sV,txV v.text⟩]⟩ else if v.kind=10 then ⟨b,[Ef_],[⟨sV,txV v.text⟩,⟨sX,txV v.extra⟩]⟩ else ⟨b,[Eg_],[⟨sV,v⟩]⟩
def dn_ (T:List d_):List h_:=T.flatMap λt=>[t.s,t.o]
def J_ (T:List d_):List h_:=bb_ G_ (dn_ T)
noncomputable def a6_ (D:List h_) (v:h_):Int:=open Classical in ((place D v:Nat):Int)
noncomputable def aj_ (T:List d_):u_ where
 nodes:=(J_ T).mapIdx λi v=>E_ (i:Nat) v
 edges:=T.mapIdx λi t=>⟨(i:Nat),a6_ (J_ T) t.s,a6_ (J_ T) t.o,t.p.text,[]⟩
end
section
open Go Go.RowKit Go.Sort
def bc_ (w : World) : Prop := Lib.TabIs Tryz.prog w "internal/strconv.uint64pow10" .u64 Lib.pow10Tab
theorem w7_ (w:World) (k:Nat) (os:Array Obj):Below w.heap.size w (grow (w.drewN k) os):=
 ⟨rfl,rfl,rfl,by unfold grow;simp,λi hi=>by
  unfold grow;show (w.heap++os)[i]?=w.heap[i]?;exact Array.getElem?_append_left hi⟩
theorem w8_ (n:Int) (h0:-9223372036854775808<=n) (h1:n<=9223372036854775807) (w:World) (c:bc_ w) :
    Calls Tryz.prog 305 #[.int .i64 n,.int .i64 10] w λe w'=>e = .returned (.string ⟨(Lib.itoa n).toArray⟩)/\Below w.heap.size w w':=
 (Any.strconv_FormatInt_10 Tryz.laysM173 n h0 h1 w c).mono λe w' ⟨h1,k,os,b⟩=>⟨h1,by rw[b];exact w7_ w k os⟩
theorem p_ {w w':World} (h:bc_ w) (hb:Below w.heap.size w w'):bc_ w':=Lib.tabBelow_of_tabIs h w' hb
theorem Ae_ (n:Int):b1_ n=bK (Lib.itoa n++[46,48]):=rfl
theorem Eh_ {n:Int} (h0:-9223372036854775808<=n) (h1:n<=9223372036854775807):(Lib.itoa n).length<=21:=by
 rw[ou_,List.length_append];have b:=(y2_ (u:=n.natAbs) (by omega)).2;by_cases h:n<0
 ·rw[decide_eq_true h];simp only[cond_true,List.length_singleton];omega
 ·rw[decide_eq_false h];simp only[cond_false,List.length_nil];omega
def Lg_ (n:Int) (w:World) (e:Ending) (w':World):Prop:=e = .returned (.string (b1_ n))/\Below w.heap.size w w'
theorem Af_ (n:Int) (h0:-9223372036854775808<=n) (h1:n<=9223372036854775807) (w:World) (h:bc_ w) :
    Calls Tryz.prog 266 #[.int .i64 n] w (Lg_ n w):=by
 have c:=q_ (w8_ n h0 h1 w h)
 have b:∀W:World,(Op.stringOp .add (bK (Lib.itoa n)) ⟨#[46,48]⟩).run Tryz.prog W = .ok (.string (b1_ n)) W:=λW=>by
  have e:b1_ n=bK (Lib.itoa n)++(⟨#[46,48]⟩:ByteArray):=by rw[Ae_,<-cj_];rfl
  rw[e];exact run_string_add_sum W _ _ (by rw[bz_];have:=Eh_ h0 h1;show _+2<=_;omega)
 have f:(⟨(Lib.itoa n).toArray⟩:ByteArray)=bK (Lib.itoa n):=rfl;rw[f]at c;obtain⟨p,m⟩:=a_ (bK (Lib.itoa n));obtain⟨j,d⟩:=a_ (b1_ n);have i:=q_ (show ∀w',Below w.heap.size w w'->Lg_ n w (.returned (.string j)) w' from λw' hb=>⟨by rw[d.o],hb⟩);rw[m.o]at c b;rw[d.o]at b;clear h h0 h1 f;go_enter Tryz.func266,Tryz.ntmps266
 go_wp2_with fail;refine c.o.mono ?_;rintro e q ⟨rfl,hb⟩;have k:=q_ hb;clear hb;go_wp2_with fail;go_ret;exact i.o _ k.o
end
section
open Go Go.RowKit
structure W_ (p:Prop):Prop where
 o :p
section
variable {P:Program} {md:Region.Mode} {ops:Array Oper} {Q:Exit->Act->World->Prop} {S:World->Prop} {fuel:Nat} {listed:Array Bool} {a:Act} {w:World}
def s_ (P:Program) (ops:Array Oper) (i:Nat) (a:Act) (w:World) (v:Value):Prop:=
 match ops[i]? with
 | some o=>(execOp a.eval o).run P w = .ok (.value v) w
 | none=>False
def gr_ (P:Program) (ops:Array Oper) (i:Nat) (a:Act) (w:World) (K:Act->World->Prop) (Q:Exit->Act->World->Prop):Prop:=
 match ops[i]? with
 | some o=>Oper.wp P o a w K Q
 | none=>False
def c4_ (ops:Array Oper) (i:Nat) (a:Act):Option Bool:=ops[i]?.map λo=>Region.wanted o (yielded ops a.tmps)
theorem q5_ (i d:Nat) (v:Value) (e:ops[i]?.map (·.dst)=some (some d)) (b:c4_ ops i a=some true) (k:Region.noSelect ops=true) (j:Region.free md ops listed i=true) (p:(Region.ready md ops listed).contains i=true)
    (q:∀c a w,Q (.panic c) (a.put (some d) v) w->Q (.panic c) a w) (f:S w) (m:∀w,S w->s_ P ops i a w v)
    (h:S w->W_ (wpAnyH P md ops Q S fuel (listed.setIfInBounds i true) (a.put (some d) v) w)):W_ (wpAnyH P md ops Q S (fuel+1) listed a w):=by
 unfold c4_ at b
 cases ho:ops[i]? with
 | none=>rw[ho]at e;cases e
 | some o=>
  rw[ho]at e b;simp only[Option.map_some,Option.some.injEq]at e b;exact⟨wpAnyH_take ho k j p (λc a w h=>q c a w (by rw[<-e];exact h)) (.inl ⟨b,λw b=>by have:=m w b;unfold s_ at this;rw[ho]at this;exact this⟩) f (by rw[e];exact (h f).o)⟩
theorem Ag_ (i:Nat) (f:Region.ready md ops listed=[i]) (b:c4_ ops i a=some true)
    (h:∀d:Act->World->Prop,Shut (∀a w,S w->(S w->W_ (wpAnyH P md ops Q S fuel (listed.setIfInBounds i true) a w))->d a w)->gr_ P ops i a w d Q):W_ (wpAnyH P md ops Q S (fuel+1) listed a w):=by
 unfold c4_ at b
 cases ho:ops[i]? with
 | none=>rw[ho]at b;cases b
 | some o=>
  rw[ho]at b;simp only[Option.map_some,Option.some.injEq]at b;refine⟨wpAnyH_ready f (by simp) (AllReadyH.cons ho (λK j=>?_) AllReadyH.nil)⟩;rw[if_pos b];have:=h K (λa w c e=>j.out a w c (λc=>(e c).o));unfold gr_ at this;rw[ho]at this;exact this
theorem bj_ (i j:Nat) (m:Region.ready md ops listed=[i,j]) (b:c4_ ops i a=some true) (c:c4_ ops j a=some true)
    (hi:∀e:Act->World->Prop,Shut (∀a w,S w->(S w->W_ (wpAnyH P md ops Q S fuel (listed.setIfInBounds i true) a w))->e a w)->gr_ P ops i a w e Q)
    (k:∀e:Act->World->Prop,Shut (∀a w,S w->(S w->W_ (wpAnyH P md ops Q S fuel (listed.setIfInBounds j true) a w))->e a w)->gr_ P ops j a w e Q):W_ (wpAnyH P md ops Q S (fuel+1) listed a w):=by
 unfold c4_ at b c
 cases hoi:ops[i]? with
 | none=>rw[hoi]at b;cases b
 | some o=>
  cases hoj:ops[j]? with
  | none=>rw[hoj]at c;cases c
  | some p=>
   rw[hoi]at b;rw[hoj]at c;simp only[Option.map_some,Option.some.injEq]at b c;refine⟨wpAnyH_ready m (by simp) (AllReadyH.cons hoi (λK h=>?_) (AllReadyH.cons hoj (λK h=>?_) AllReadyH.nil))⟩
   ·rw[if_pos b];have:=hi K (λa w d f=>h.out a w d (λd=>(f d).o));unfold gr_ at this;rw[hoi]at this;exact this
   ·rw[if_pos c];have:=k K (λa w d f=>h.out a w d (λd=>(f d).o));unfold gr_ at this;rw[hoj]at this;exact this
theorem aT {α : Type _} (l:List α) (i:Nat) (a:α):l.toArray.setIfInBounds i a=(l.set i a).toArray:=List.setIfInBounds_toArray ..
theorem aZ {α : Type _} (x:α) (l:List α) (a:α):(x::l).set 0 a=a::l:=List.set_cons_zero ..
theorem aS {α : Type _} (x:α) (l:List α) (n:Nat) (a:α):(x::l).set (n+1) a=x::l.set n a:=List.set_cons_succ ..
theorem tkW (i d:Nat) (v:Value) (j:S w) (k:∀w,S w->s_ P ops i a w v)
    (h:S w->W_ (wpAnyH P md ops Q S fuel (listed.setIfInBounds i true) (a.put (some d) v) w)) (m:ops[i]?.map (·.dst)=some (some d):=by kernel_rfl) (e:c4_ ops i a=some true:=by rfl) (f:Region.noSelect ops=true:=by kernel_rfl) (b:Region.free md ops listed i=true:=by kernel_rfl) (p:(Region.ready md ops listed).contains i=true:=by kernel_rfl)
    (q:∀c a w,Q (.panic c) (a.put (some d) v) w->Q (.panic c) a w:=by exact λ_ _ _ h=>h):W_ (wpAnyH P md ops Q S (fuel+1) listed a w):=q5_ i d v m e f b p q j k h
theorem X_ (i d:Nat) (v:Value) (j:S w)
    (h:S w->W_ (wpAnyH P md ops Q S fuel (listed.setIfInBounds i true) (a.put (some d) v) w)) (k:∀w,S w->s_ P ops i a w v:=by intro w r;unfold s_;go_simp) (m:ops[i]?.map (·.dst)=some (some d):=by kernel_rfl) (e:c4_ ops i a=some true:=by rfl) (f:Region.noSelect ops=true:=by kernel_rfl) (b:Region.free md ops listed i=true:=by kernel_rfl) (p:(Region.ready md ops listed).contains i=true:=by kernel_rfl)
    (q:∀c a w,Q (.panic c) (a.put (some d) v) w->Q (.panic c) a w:=by exact λ_ _ _ h=>h):W_ (wpAnyH P md ops Q S (fuel+1) listed a w):=q5_ i d v m e f b p q j k h
theorem tkC (i:Nat)
    (h:∀b:Act->World->Prop,Shut (∀a w,S w->(S w->W_ (wpAnyH P md ops Q S fuel (listed.setIfInBounds i true) a w))->b a w)->gr_ P ops i a w b Q) (d:Region.ready md ops listed=[i]:=by kernel_rfl) (c:c4_ ops i a=some true:=by rfl):W_ (wpAnyH P md ops Q S (fuel+1) listed a w):=Ag_ i d c h
end
theorem hm_ {S:Nat->Prop} {a:World} (g:Nat) (d:a.heap.size<=g\/S g) (b:List Value):∀(o:Nat) {w:World},Turn S a w->Turn S a (w.setCells g o b):=by
 induction b with
 | nil=>intro o w h;exact h
 | cons v r c=>intro o w h;exact c (o+1) (h.setCell (p:=⟨g,o,none⟩) d v)
theorem hn_ {g:Nat} {T:TypeId} (i:List Value):∀(o:Nat) {w:World} {c:Array Value},w.heap[g]?=some (.cells c T (0,0)) ->
    ∃f:Array Value,(w.setCells g o i).heap[g]?=some (.cells f T (0,0))/\f.size=c.size/\∀j,f[j]?=if o<=j/\j<o+i.length/\j<c.size then i[j-o]? else c[j]?:=by
 induction i with
 | nil=>
  intro o w c h;refine⟨c,h,rfl,λj=>?_⟩;rw[if_neg (by simp;omega)]
 | cons v r q=>
  intro o w c h;obtain⟨f,h1,k,x⟩:=q (o+1) (heap_setCell_same w g o c T v h);rw[Array.size_setIfInBounds]at k;refine⟨f,h1,k,λj=>?_⟩;rw[x j,Array.size_setIfInBounds,List.length_cons];by_cases e:j=o
  ·subst e;rw[if_neg (by omega),Array.getElem?_setIfInBounds,if_pos rfl];by_cases b:j<c.size
   ·rw[if_pos b,if_pos ⟨Nat.le_refl _,by omega,b⟩,Nat.sub_self];rfl
   ·rw[if_neg b,if_neg (by omega),Array.getElem?_eq_none (by omega)]
  ·by_cases d:o+1<=j/\j<o+1+r.length/\j<c.size
   ·rw[if_pos d,if_pos ⟨by omega,by omega,d.2.2⟩];obtain⟨t,p⟩:∃t,j-o=t+1:=⟨j-o-1,by omega⟩;rw[p,List.getElem?_cons_succ];congr 1
    omega
   ·rw[if_neg d,if_neg (by omega),Array.getElem?_setIfInBounds,if_neg (λm=>e m.symm)]
theorem mt_ {w:World} {g:Nat} {T:TypeId} {c b:Array Value} (h:w.heap[g]?=some (.cells c T (0,0))) (k:b.size=c.size):(w.setCells g 0 b.toList).heap[g]?=some (.cells b T (0,0)):=by
 obtain⟨d,h1,i,f⟩:=hn_ b.toList 0 h;rw[h1];congr 2
 apply Array.ext_getElem?;intro j;rw[f j,Array.length_toList,Nat.zero_add,Nat.sub_zero,Array.getElem?_toList];by_cases e:j<c.size
 ·rw[if_pos ⟨Nat.zero_le _,by omega,e⟩]
 ·rw[if_neg (λh=>e h.2.2),Array.getElem?_eq_none (by omega),Array.getElem?_eq_none (by omega)]
theorem k_ {w:World} {g:Nat} {c:Array Value} {T:TypeId} {b:Nat×Nat} (h:w.heap[g]?=some (.cells c T b)):w.rangeAt g 0 c.toList:=λj v d=>by
 rw[Nat.zero_add];exact (cell_of_row w g j c T b h).trans (by rw[<-Array.getElem?_toList];exact d)
theorem q6_ {w:World} {g:Nat} {c:Array Value} {T:TypeId} {n:Nat} (h:w.heap[g]?=some (.cells c T (0,0))) (d:n<=c.size):w.there g 0 n:=λj b=>by
 rw[Nat.zero_add];exact⟨by rw[cell_of_row w g j c T _ h,Array.getElem?_eq_getElem (by omega)];rfl,frozen_of_row _ _ _ _ _ h⟩
theorem ab_ {P:Program} {w:World} {g:Nat} {c:Array Value} {T:TypeId} {b:Nat×Nat} (h:w.heap[g]?=some (.cells c T b)) (ty:TypeId) (d:TypeDesc) (e:P.underlying ty=some d) (f:d.isRow=true) (hi:(P.info? ty).map (·.size)=some c.size) :
    (Instr.loadAt ty (.pointer (some ⟨g,0,none⟩))).run P w = .ok (.agg c) w:=by
 have:=run_loadAt_mid (P:=P) w g 0 ty c.toList d (k_ h) e f (by rw[Array.length_toList];exact hi);rwa [Array.toArray_toList]at this
section
variable {P:Program} {ops:Array Oper} {rest:List Oper} {op:Oper} {a:Act} {w:World} {Q:Exit->Act->World->Prop}
theorem m_ (e:op.guard=none) (ty:TypeId) (x y:Operand) (j:op.op = .store ty x y) (g:Nat) (c d:Array Value) (T:TypeId) (i:a.eval x = .pointer (some ⟨g,0,none⟩)) (m:a.eval y = .agg d)
    (f:w.heap[g]?=some (.cells c T (0,0))) (k:d.size=c.size) (hi:(P.info? ty).map (·.size)=some d.size) (h1:d.all (·.oneCell')=true)
    (h:∀w',w'.heap[g]?=some (.cells d T (0,0))->Turn (λb=>b=g) w w'->wpList P ops Q rest (a.put op.dst undef) w'):wpList P ops Q (op::rest) a w:=
 wpList_store_mid e ty x y j g 0 d i m (q6_ f (by omega)) hi h1 (h _ (mt_ f k) (hm_ (S:=λb=>b=g) g (.inr rfl) _ 0 (Turn.refl _ w)))
theorem e_ (d:Option Nat) {i:Op} {b:TypeId} {f:String} {e:Array Edge} {c:Option (Nat×Bool)} (h:wpList P ops Q (⟨d,i,b,f,e,c⟩::rest) a w):wpList P ops Q (⟨d,i,b,f,e,c⟩::rest) a w:=h
theorem y_ (t:Nat) {ty c:TypeId} {y:Operand} {d:Option Nat} {e:String} {b:Array Edge} {f:Option (Nat×Bool)} (h:wpList P ops Q (⟨d,.store ty (.tmp t) y,c,e,b,f⟩::rest) a w):wpList P ops Q (⟨d,.store ty (.tmp t) y,c,e,b,f⟩::rest) a w:=h
theorem w_ (e:op.guard=none) (ty:TypeId) (x:Operand) (m:op.op = .load ty x) (b o:Nat) (i:a.eval x = .pointer (some ⟨b,o,none⟩)) (c:Array Value) (d:TypeDesc) (j:w.rangeAt b o c.toList)
    (f:P.underlying ty=some d) (k:d.isRow=true) (hi:(P.info? ty).map (·.size)=some c.size) (h:wpList P ops Q rest (a.put op.dst (.agg c)) w):wpList P ops Q (op::rest) a w:=
 wpList_load_mid e ty x m b o i c.toList d j f k (by rw[Array.length_toList];exact hi) (by rw[Array.toArray_toList];exact h)
theorem sx_ {K:Act->World->Prop} (ty:TypeId) (x y:Operand) (i:op.op = .store ty x y) (g:Nat) (c d:Array Value) (T:TypeId) (f:a.eval x = .pointer (some ⟨g,0,none⟩)) (k:a.eval y = .agg d)
    (e:w.heap[g]?=some (.cells c T (0,0))) (j:d.size=c.size) (hi:(P.info? ty).map (·.size)=some d.size) (h1:d.all (·.oneCell')=true)
    (h:∀w',w'.heap[g]?=some (.cells d T (0,0))->Turn (λb=>b=g) w w'->K (a.put op.dst undef) w'):op.wp P a w K Q:=
 wp_store_mid ty x y i g 0 d f k (q6_ e (by omega)) hi h1 (h _ (mt_ e j) (hm_ (S:=λb=>b=g) g (.inr rfl) _ 0 (Turn.refl _ w)))
theorem N_ (d:op.guard=none) (ty:TypeId) (b:Array (Nat×Operand)) (k:op.op = .build ty b) (c:Array (Nat×Value)) (f:(b.map λ(i,x)=>(i,a.eval x))=c) (v:Value) (j:(Instr.build ty c).run P w = .ok v w) (h:wpList P ops Q rest (a.put op.dst v) w):wpList P ops Q (op::rest) a w:=
 wpList_plain d λ_ m=>by
  unfold Oper.wp execOp;simp only[k];have e:(Instr.build ty (b.map λ(i,x)=>(i,a.eval x))).run P w = .ok v w:=by rw[f];exact j
  simp only[Sem.run_bind,Sem.run_pure,e,Result.andThen_ok];exact m _ _ h
theorem o_ {m:Sem Value} {v:Value} (h:m.run P w = .ok v w):(do pure (Next.value (<-m)):Sem Next).run P w = .ok (.value v) w:=by simp[h]
end
theorem Turn.heap {S:Nat->Prop} {w w':World} {g:Nat} {o:Obj} (c:Turn S w w') (h:w.heap[g]?=some o) (b:¬S g):w'.heap[g]?=some o:=(c.block g (b_ h) b).trans h
def Ei_ (b:Bool) (s:Value) (k:Int):Array Value:=#[.bool b,s,.int .i64 k]
structure Eq3 (c:Array Value) (b:Bool) (s:Value) (k:Int):Prop where
 o :Ei_ b s k=c
theorem Eq3.size {c:Array Value} {b:Bool} {s:Value} {k:Int} (h:Eq3 c b s k):c.size=3:=by rw[<-h.o];rfl
theorem Eq3.one {c:Array Value} {b:Bool} {s:Value} {k:Int} (h:Eq3 c b s k) (e:s.oneCell'=true):c.all (·.oneCell')=true:=by
 rw[<-h.o,Array.all_eq_true_iff_forall_mem];intro v d;unfold Ei_ at d;simp at d;rcases d with rfl | rfl | rfl
 ·rfl
 ·exact e
 ·rfl
theorem q7_ {a b:Int} (h:a=b):Ending.returned (.int .i64 a) = .returned (.int .i64 b):=by rw[h]
def Jn_ (a b:Bool):Int:=if a=true then -1 else if b=true then 1 else 0
def up_ (v:h_) (w:World) (e:Ending) (w':World):Prop:=e = .returned (.string (H_ v))/\Below w.heap.size w w'
def b4_ (a b:h_) (w:World) (e:Ending) (w':World):Prop:=e = .returned (.int .i64 (G_ a b))/\Below w.heap.size w w'
theorem Ah_ (x y:ByteArray):Jn_ (Op.bytesLess x.toList y.toList) (!Op.bytesLess x.toList y.toList && !x.toList==y.toList)=cn_ x.data.toList y.data.toList:=by
 rw[ByteArray.toList_eq,ByteArray.toList_eq];unfold cn_ Jn_
 cases h1:Op.bytesLess x.data.toList y.data.toList with
 | true=>rfl
 | false=>
  by_cases b:x.data.toList=y.data.toList
  ·rw[b,ue_];simp
  ·have c:Op.bytesLess y.data.toList x.data.toList=true:=by
     cases h4:Op.bytesLess y.data.toList x.data.toList with
     | true=>rfl
     | false=>exact absurd (hk_ _ _ h1 h4) b
   have d:(x.data.toList==y.data.toList)=false:=beq_eq_false_iff_ne.2 b;rw[c,d];rfl
end
section
open Go
theorem w9_:c1_ ui_=true:=by
 have h:ui_=b1_ 0:=by unfold ui_ b1_ Lib.itoa;rw[if_neg (by decide),show (0:Int).toNat=0 from rfl,Lib.decDigits_one (by decide)];rfl
 rw[h];exact ov_ (by decide) (by decide)
theorem d6_ {v:h_} (h0:-9223372036854775808<=v.num) (h1:v.num<=9223372036854775807):c1_ (H_ v)=true:=by
 unfold H_;by_cases c:v.kind=2
 ·rw[if_pos c];exact ov_ h0 h1
 ·rw[if_neg c];by_cases b:c1_ v.text=true
  ·rw[if_pos b];exact b
  ·rw[if_neg b];exact w9_
end
section
open Go Go.RowKit
structure Eq6 (c:Array Value) (v:h_) (s:Value):Prop where
 o :c_ v s=c
theorem F_ (v:h_) (s:Value):∃c,Eq6 c v s:=⟨_,⟨rfl⟩⟩
theorem Eq6.size {c:Array Value} {v:h_} {s:Value} (h:Eq6 c v s):c.size=6:=by rw[<-h.o];rfl
structure a9_ (v:h_):Prop where
 n0:-9223372036854775808<=v.num
 n1:v.num<=9223372036854775807
 ts:v.text.size<=4000000000000
theorem Ej_ (x:ByteArray) (w:World):Calls Tryz.prog 214 #[.string x] w λe w'=>e = .returned (.bool false)/\w'=w:=by
 go_enter Tryz.func214,Tryz.ntmps214
 go_wp2_with fail;go_ret;exact⟨by simp,rfl⟩
theorem Ai_ (x:Int) (w:World):Calls Tryz.prog 215 #[.int .i64 x] w λe w'=>e = .returned (.bool false)/\w'=w:=by
 go_enter Tryz.func215,Tryz.ntmps215
 go_wp2_with fail;go_ret;exact⟨by simp,rfl⟩
theorem Aj_ (x y:Int) (w:World):Calls Tryz.prog 133 #[.int .i64 x,.int .i64 y] w λe w'=>e = .returned (.int .i64 (cw_ x y))/\w'=w:=by
 have b:=q_ Ai_;go_enter Tryz.func133,Tryz.ntmps133
 go_wp2_with (go_at_call 215;(with_reducible refine (b.o _ _).mono ?_);rintro e w' ⟨rfl,rfl⟩)
 all_goals (go_ret;refine⟨q7_ ?_,rfl⟩;unfold cw_;(repeat' split)<;>first | rfl | (exfalso;omega))
theorem o1_ (b:Bool) (w:World):Calls Tryz.prog 134 #[.bool b] w λe w'=>e = .returned (.int .i64 (if b=true then 1 else 0))/\w'=w:=by
 cases b
 all_goals
  go_enter Tryz.func134,Tryz.ntmps134
  go_wp2_with fail;go_ret;exact⟨rfl,rfl⟩
theorem b9_ (x y:ByteArray) (w:World):Calls Tryz.prog 130 #[.string x,.string y] w λe w'=>e = .returned (.int .i64 (cn_ x.data.toList y.data.toList))/\w'=w:=by
 have c:=q_ Ej_;have b:=q_ (Ah_ x y);obtain⟨v,d⟩:=a_ (cn_ x.data.toList y.data.toList);rw[d.o]at b ⊢
 cases h1:Op.bytesLess x.toList y.toList with
 | true=>
  rw[h1]at b;go_enter Tryz.func130,Tryz.ntmps130
  go_wp2_with (go_at_call 214;(with_reducible refine (c.o _ _).mono ?_);rintro e w' ⟨rfl,rfl⟩)
  go_ret;exact⟨by rw[<-b.o];rfl,rfl⟩
 | false=>
  cases h2:(x.toList==y.toList) with
  | true=>
   rw[h1,h2]at b;go_enter Tryz.func130,Tryz.ntmps130
   go_wp2_with (go_at_call 214;(with_reducible refine (c.o _ _).mono ?_);rintro e w' ⟨rfl,rfl⟩)
   go_ret;exact⟨by rw[<-b.o];rfl,rfl⟩
  | false=>
   rw[h1,h2]at b;go_enter Tryz.func130,Tryz.ntmps130
   go_wp2_with (go_at_call 214;(with_reducible refine (c.o _ _).mono ?_);rintro e w' ⟨rfl,rfl⟩)
   go_ret;exact⟨by rw[<-b.o];rfl,rfl⟩
theorem fg_ (v:h_) (s:Value) (h0:-9223372036854775808<=v.num) (h1:v.num<=9223372036854775807) (Y:v.text.size<=4000000000000) (w:World) (D:M_ w) (J:bc_ w) :
    Calls Tryz.prog 213 #[.agg (c_ v s)] w (up_ v w):=by
 have I:=q_ (λ(W:World) (y:Below w.heap.size w W)=>Af_ v.num h0 h1 W (p_ J y));have C:=q_ (λ(W:World) (y:Below w.heap.size w W)=>sk_ v.text (by omega) W (g_ D y));have d:=q_ (show H_ v=if v.kind=2 then b1_ v.num else if c1_ v.text=true then v.text else ui_ from rfl)
 obtain⟨x,N⟩:=a_ (H_ v);have M:=q_ (show ∀w',Below w.heap.size w w'->up_ v w (.returned (.string x)) w' from λw' hb=>⟨by rw[N.o],hb⟩);obtain⟨o,L⟩:=a_ (b1_ v.num);rw[N.o,L.o]at d;have q:=q_ (λh:v.kind=2=>(show x=o from by rw[d.o,if_pos h]));have j:=q_ (λ(h:v.kind≠2) (c:c1_ v.text=true)=>(show x=v.text from by rw[d.o,if_neg h,if_pos c]));have r:=q_ (λ(h:v.kind≠2) (c:c1_ v.text=false)=>(show x=⟨#[48,46,48]⟩ from by rw[d.o,if_neg h,if_neg (by rw[c];exact Bool.false_ne_true)];rfl));clear d;have m:=q_ (λ(W:World) (y:Below w.heap.size w W)=>(show Calls Tryz.prog 266 #[.int .i64 v.num] W (λe w'=>e = .returned (.string o)/\Below W.heap.size W w') from by rw[<-L.o];exact I.o W y));clear I N L
 cases v with
 | mk k b n t U l=>
 unfold c_;simp only[h_.kind,h_.truth,h_.num,h_.text,h_.extra]at m C q j r ⊢;clear h0 h1 Y D J;go_enter Tryz.func213,Tryz.ntmps213
 by_cases f:k=2
 ·have Z:=q_ (q.o f);subst f;go_wp2_with fail;refine (m.o _ ((Below.refl _ _).alloc (Nat.le_refl _) _)).mono ?_;rintro e V ⟨rfl,hb⟩;have B:=q_ (((Below.refl w.heap.size w).alloc (Nat.le_refl _) (.cells #[.int .i64 2,.bool b,.int .i64 n,.string t,.string U,s] 39)).trans (hb.mono (by simp)));clear hb;go_wp2_with fail;go_ret;have:=M.o _ B.o;rw[Z.o]at this;exact this
 ·have e2:(k==2)=false:=by simpa using f
  have O:=q_ (j.o f);have T:=q_ (r.o f);clear f q j r;go_wp2_with fail;refine (C.o _ ((Below.refl _ _).alloc (Nat.le_refl _) _)).mono ?_;rintro e V ⟨rfl,hb⟩;have c3:V.cell? ⟨w.heap.size,3,none⟩=some (.string t):=(hb.cell (p:=⟨w.heap.size,3,none⟩) (by simp)).trans (cell_of_heap (heap_alloc_new w _) 3);have B:=q_ (((Below.refl w.heap.size w).alloc (Nat.le_refl _) (.cells #[.int .i64 k,.bool b,.int .i64 n,.string t,.string U,s] 39)).trans (hb.mono (by simp)));clear hb;obtain⟨X,z⟩:=a_ (c1_ t);rw[z.o]
  cases X with
  | true=>
   have c:=z.o;have i:=q_ (show x=t from O.o c);clear c;go_wp2_with fail;go_ret;have:=M.o _ B.o;rw[i.o]at this;exact this
  | false=>
   have c:=z.o;have i:=q_ (show x=⟨#[48,46,48]⟩ from T.o c);clear c;go_wp2_with fail;go_ret;have:=M.o _ B.o;rw[i.o]at this;exact this
def fs_ (k:Int) (w:World) (e:Ending) (w':World):Prop:=e = .returned (.int .i64 (n_ k))/\Below w.heap.size w w'
theorem Z_ (v:h_) (s:Value) (w:World):Calls Tryz.prog 127 #[.int .i64 1,.agg (c_ v s)] w (fs_ v.kind w):=by
 have hb:=q_ λo:Obj=>show Below w.heap.size w (w.alloc o) from (Below.refl _ _).alloc (Nat.le_refl _) _
 cases v with
 | mk k b n t x l=>
 unfold c_;simp only[h_.kind,h_.truth,h_.num,h_.text,h_.extra];by_cases i:k=5
 ·subst i;go_enter Tryz.func127,Tryz.ntmps127
  go_wp2_with fail;go_ret;exact⟨rfl,hb.o _⟩
 by_cases j:k=6
 ·subst j;go_enter Tryz.func127,Tryz.ntmps127
  go_wp2_with fail;go_ret;exact⟨rfl,hb.o _⟩
 by_cases e:k=7
 ·subst e;go_enter Tryz.func127,Tryz.ntmps127
  go_wp2_with fail;go_ret;exact⟨rfl,hb.o _⟩
 by_cases p:k=9
 ·subst p;go_enter Tryz.func127,Tryz.ntmps127
  go_wp2_with fail;go_ret;exact⟨rfl,hb.o _⟩
 by_cases h:k=8
 ·subst h;go_enter Tryz.func127,Tryz.ntmps127
  go_wp2_with fail;go_ret;exact⟨rfl,hb.o _⟩
 by_cases c:k=10
 ·subst c;go_enter Tryz.func127,Tryz.ntmps127
  go_wp2_with fail;go_ret;exact⟨rfl,hb.o _⟩
 by_cases d:k=4
 ·subst d;go_enter Tryz.func127,Tryz.ntmps127
  go_wp2_with fail;go_ret;exact⟨rfl,hb.o _⟩
 by_cases h1:k=1
 ·subst h1;go_enter Tryz.func127,Tryz.ntmps127
  go_wp2_with fail;go_ret;exact⟨rfl,hb.o _⟩
 by_cases m:k=2
 ·subst m;go_enter Tryz.func127,Tryz.ntmps127
  go_wp2_with fail;go_ret;exact⟨rfl,hb.o _⟩
 by_cases f:k=3
 ·subst f;go_enter Tryz.func127,Tryz.ntmps127
  go_wp2_with fail;go_ret;exact⟨rfl,hb.o _⟩
 by_cases h0:k=0
 ·subst h0;go_enter Tryz.func127,Tryz.ntmps127
  go_wp2_with fail;go_ret;exact⟨rfl,hb.o _⟩
 have q:=q_ (show (11:Int)=n_ k from by unfold n_;rw[if_neg i,if_neg j,if_neg e,if_neg p,if_neg h,if_neg c,if_neg d,if_neg h1,if_neg m,if_neg f,if_neg h0]);have z:(k==5)=false:=by simpa using i
 have I:(k==6)=false:=by simpa using j
 have D:(k==7)=false:=by simpa using e
 have J:(k==9)=false:=by simpa using p
 have B:(k==8)=false:=by simpa using h
 have r:(k==10)=false:=by simpa using c
 have M:(k==4)=false:=by simpa using d
 have C:(k==1)=false:=by simpa using h1
 have L:(k==2)=false:=by simpa using m
 have y:(k==3)=false:=by simpa using f
 have e0:(k==0)=false:=by simpa using h0
 clear i j e p h c d h1 m f h0;go_enter Tryz.func127,Tryz.ntmps127
 go_wp2_with fail;go_ret;exact⟨q7_ q.o,hb.o _⟩
theorem ac_ (f:Nat->Nat):(R_ f).size=16:=by unfold R_;simp
theorem o2_ (f:Nat->Nat):(R_ f).all (·.oneCell')=true:=by rw[Array.all_eq_true_iff_forall_mem];intro v b;unfold R_ at b;obtain⟨i,hi,rfl⟩:=Array.mem_ofFn.1 b;rfl
def V_ (n:Bool) (f:Nat->Nat):Array Value:=#[.bool n]++R_ f
theorem v_ (n:Bool) (f:Nat->Nat):(V_ n f).size=17:=by unfold V_;rw[Array.size_append,ac_];rfl
structure EqN (c:Array Value) (n:Bool) (f:Nat->Nat):Prop where
 o :V_ n f=c
theorem mu_ (n:Bool) (f:Nat->Nat):∃c,EqN c n f:=⟨_,⟨rfl⟩⟩
structure EqU (c:Array Value) (f:Nat->Nat):Prop where
 o :R_ f=c
theorem q8_ (f:Nat->Nat):∃c,EqU c f:=⟨_,⟨rfl⟩⟩
theorem sy_ (l:List UInt8):∀b:Nat,l.all bg_=true->b*10 ^ l.length+ax_ l<1844674407370955161->Lib.parseUintM (2 ^ 64-1) b l = .ok (b*10 ^ l.length+ax_ l):=by
 induction l with
 | nil=>intro b _ _;simp[Lib.parseUintM,ax_]
 | cons c r h=>
  intro b d hb;rw[List.all_cons,Bool.and_eq_true,c2_]at d
  have e:b*10 ^ (c::r).length+ax_ (c::r)=(b*10+(c.toNat-48))*10 ^ r.length+ax_ r:=by
   have h1:=d5_ [c] r;have f:ax_ [c]=c.toNat-48:=by show 0*10+(c.toNat-48)=_;omega
   rw[List.singleton_append,f]at h1;rw[h1,List.length_cons,Nat.pow_succ,Nat.add_mul,Nat.mul_assoc,Nat.mul_comm 10,Nat.add_assoc]
  rw[e]at hb ⊢;have i:1<=10 ^ r.length:=Nat.one_le_pow _ _ (by decide);have k:(b*10+(c.toNat-48))*1<=(b*10+(c.toNat-48))*10 ^ r.length:=Nat.mul_le_mul_left _ i;have j:2 ^ 64-1=18446744073709551615:=by decide
  unfold Lib.parseUintM;rw[if_pos d.1,if_neg (by omega),if_neg (by omega)];exact h _ d.2 hb
theorem Ek_ (c:UInt8) (r:List UInt8):ax_ (c::r)=(c.toNat-48)*10 ^ r.length+ax_ r:=by
 have h1:=d5_ [c] r;have b:ax_ [c]=c.toNat-48:=by show 0*10+(c.toNat-48)=_;omega
 rw[List.singleton_append,b]at h1;exact h1
theorem xa_ (l:List UInt8) (h:l.all bg_=true):ax_ l<10 ^ l.length:=by
 induction l with
 | nil=>simp[ax_]
 | cons c r b=>
  rw[List.all_cons,Bool.and_eq_true,c2_]at h;have h1:=b h.2;rw[Ek_,List.length_cons,Nat.pow_succ];have d:(c.toNat-48)*10 ^ r.length<=9*10 ^ r.length:=Nat.mul_le_mul_right _ (by omega);omega
theorem xb_ {l:List UInt8} (h:l.all bg_=true) (h0:0<l.length) (c:l.length<=9):Lib.parseUintB 64 l = .ok (ax_ l):=by
 unfold Lib.parseUintB;rw[if_neg (λe=>by rw[e]at h0;simp at h0)];have h1:=xa_ l h;have d:10 ^ l.length<=10 ^ 9:=Nat.pow_le_pow_right (by decide) c;have f:(10:Nat) ^ 9=1000000000:=by decide
 have b:=sy_ l 0 h (by omega);rw[Nat.zero_mul,Nat.zero_add]at b;exact b
theorem J6_ (s:ByteArray) (d:s.data.toList.all bg_=true) (h0:0<s.size) (c:s.size<=9) (w:World) :
    Calls Tryz.prog 347 #[.string s,.int .i64 10,.int .i64 64] w λe w'=>e = .returned (.tuple #[.int .u64 (ax_ s.data.toList:Int),.nilIface])/\Below w.heap.size w w':=
 (Any.strconv_ParseUint_10_at64_ok Tryz.laysPu14 s (by omega) (ax_ s.data.toList) (xb_ d h0 c) w).mono λe w' ⟨h1,b⟩=>⟨h1,by
  rcases b with rfl | rfl
  ·exact Below.refl _ _
  ·exact Lib.bytesWorld_below _ _ _⟩
theorem xc_ (f:Nat->Nat) {i:Nat} (hi:i<16) (m:Nat):(R_ f).setIfInBounds i (.int .u64 (m:Int))=R_ (λj=>if j=i then m else f j):=by
 apply Array.ext_getElem?;intro j;rcases Nat.lt_or_ge j 16 with b | b
 ·have d:=de_ f b;have c:=de_ (λj=>if j=i then m else f j) b
  rw[Array.getElem?_setIfInBounds,d,c,ac_];by_cases e:i=j
  ·subst e;rw[if_pos rfl,if_pos hi,if_pos rfl]
  ·rw[if_neg e,if_neg (λc=>e c.symm)]
 ·rw[Array.getElem?_eq_none (by rw[Array.size_setIfInBounds,ac_];exact b),Array.getElem?_eq_none (by rw[ac_];exact b)]
theorem uq_ {s:ByteArray} (k:Nat):(s.extract k s.size).data.toList=s.data.toList.drop k:=by rw[ByteArray.data_extract,Array.toList_extract,List.extract_eq_take_drop];have b:s.size=s.data.toList.length:=(a8_ s).symm;rw[b];apply List.take_of_length_le;rw[List.length_drop];exact Nat.le_refl _
theorem J7_ {s:ByteArray} (k:Nat):(s.extract 0 k).data.toList=s.data.toList.take k:=by rw[ByteArray.data_extract,Array.toList_extract,List.extract_eq_take_drop,Nat.sub_zero,List.drop_zero]
def Hl_ (l:List UInt8) (w:World) (e:Ending) (w':World):Prop:=∃f:Nat->Nat,e = .returned (.agg (R_ f))/\Below w.heap.size w w'/\(∀i,i<16->f i<bW)/\pv f 16=ax_ l
structure Jo_ (w:World) (z:Nat) (l:List UInt8) (i:Nat) (r:ByteArray) (f:Nat->Nat) (wx:World):Prop where
 hb:Below w.heap.size w wx
 hz:w.heap.size=z
 h0:wx.heap[z]?=some (.cells (R_ (λ_=>0)) 291 (0,0))
 h1:wx.heap[z+1]?=some (.cells (R_ f) 291 (0,0))
 lo:∀j,j<i->f j<bW
 hi:∀j,i<=j->f j=0
 dig:r.data.toList.all bg_=true
 sz:r.size+9*i<=144\/r.size=0
 val:pv f i+ax_ r.data.toList*bW ^ i=ax_ l
theorem El_ {f:Nat->Nat} {i:Nat} (h:∀j,i<=j->f j=0):∀n,pv f (i+n)=pv f i:=by
 intro n;induction n with
 | zero=>rfl
 | succ n b=>
  show pv f (i+n)+f (i+n)*bW ^ (i+n)=pv f i;rw[b,h (i+n) (by omega)];simp
theorem ur_ (s:ByteArray) (hs:s.data.toList.all bg_=true) (a3:s.size<=144) (w:World) :
    Calls Tryz.prog 328 #[.string s] w (Hl_ s.data.toList w):=by
 obtain⟨z,O⟩:=a_ w.heap.size;obtain⟨w1,B⟩:=a_ ((w.alloc (.cells #[.int .u64 0,.int .u64 0,.int .u64 0,.int .u64 0,.int .u64 0,.int .u64 0,.int .u64 0,.int .u64 0,.int .u64 0,.int .u64 0,.int .u64 0,.int .u64 0,.int .u64 0,.int .u64 0,.int .u64 0,.int .u64 0] 291)).alloc (.cells #[.int .u64 0,.int .u64 0,.int .u64 0,.int .u64 0,.int .u64 0,.int .u64 0,.int .u64 0,.int .u64 0,.int .u64 0,.int .u64 0,.int .u64 0,.int .u64 0,.int .u64 0,.int .u64 0,.int .u64 0,.int .u64 0] 291));have q:(#[.int .u64 0,.int .u64 0,.int .u64 0,.int .u64 0,.int .u64 0,.int .u64 0,.int .u64 0,.int .u64 0,.int .u64 0,.int .u64 0,.int .u64 0,.int .u64 0,.int .u64 0,.int .u64 0,.int .u64 0,.int .u64 0]:Array Value)=R_ (λ_=>0):=by kernel_rfl
 have HM:=q_ (show Jo_ w z s.data.toList 0 s (λ_=>0) w1 from {
  hb:=by rw[<-B.o];exact D_ w _ _
  hz:=O.o
  h0:=by rw[<-B.o,<-O.o,q,Below.heap_alloc _ _ _ (by simp)];exact heap_alloc_new w _
  h1:=by rw[<-B.o,<-O.o,q];have:=heap_alloc_new (w.alloc (.cells (R_ (λ_=>0)) 291)) (.cells (R_ (λ_=>0)) 291);simpa using this
  lo:=λj C=>absurd C (Nat.not_lt_zero _)
  hi:=λ_ _=>rfl
  dig:=hs
  sz:=.inl (by omega)
  val:=by simp[pv] })
 clear hs q;go_enter Tryz.func328,Tryz.ntmps328
 go_upto_region 2 with fail;rw[B.o,O.o];go_wp2_with fail;go_loopw [0,4] (λs0 Z wx=>∃(i:Nat) (r:ByteArray) (f:Nat->Nat),i<=16/\r.size<=144/\s0 = .string r/\Z = .int .i64 (i:Nat)/\Q_ (Jo_ w z s.data.toList i r f wx)) (λ_ Z _=>16-(intOf Z).toNat)
 case atStart=>exact⟨0,s,_,by omega,a3,rfl,rfl,HM⟩
 case round=>
  obtain⟨i,r,f,hi,ab,rfl,rfl,d⟩:=hrel;by_cases h0:0<r.size
  ·have L:i<16:=by have:=d.o.sz;omega
   have e1:(0:Int)<(r.size:Int):=by omega
   have e2:(0:Int)<=i:=by omega
   have e3:(i:Int)<16:=by omega
   have w0:IntKind.i64.wrap ((r.size:Int)-9)=(r.size:Int)-9:=IntWalk.i64_in _ (by omega);have ae:IntKind.i64.wrap ((i:Int)+1)=(i:Int)+1:=IntWalk.i64_in _ (by omega);obtain⟨k,t⟩:=a_ (r.size-9);have ac:k<=r.size:=by rw[<-t.o];omega
   have af:max ((r.size:Int)-9) 0=(k:Int):=by rw[<-t.o];omega
   obtain⟨c,T⟩:=a_ (r.extract k r.size);have D:c.size=r.size-k:=by rw[<-T.o];simp
   have V:=q_ (J6_ c (by rw[<-T.o,uq_,List.all_eq_true];exact λx J=>List.all_eq_true.1 d.o.dig x (List.mem_of_mem_drop J)) (by rw[D,<-t.o];omega) (by rw[D,<-t.o];omega) wr);obtain⟨m,Hm⟩:=a_ (ax_ c.data.toList);rw[Hm.o]at V;have X:=q_ (show m=ax_ (r.data.toList.drop (r.data.toList.length-9)) from by rw[<-Hm.o,<-T.o,uq_,a8_,t.o]);obtain⟨Y,I⟩:=a_ (r.extract 0 k);have U:=q_ (show Y.data.toList=r.data.toList.take (r.data.toList.length-9) from by rw[<-I.o,J7_,a8_,t.o]);have W:=q_ (show Y.size=k from by rw[<-I.o];simp;omega);have a4:=q_ (show k=r.size-9 from t.o.symm);have ad:=T.o;have a9:=I.o;have a2:=dl_ (z+1) i;clear D;go_wp2_with fail;refine V.o.mono ?_;rintro e w2 ⟨rfl,y⟩;have a1:=q_ y;have M:=q_ ((y.block (z+1) (b_ d.o.h1)).trans d.o.h1);have a6:=q_ ((y.block z (b_ d.o.h0)).trans d.o.h0);have c1:w2.cell? ⟨z+1,i,none⟩=some (.int .u64 (f i:Int)):=(cell_of_heap M.o i).trans (de_ f L);have f1:w2.frozen? ⟨z+1,i,none⟩=false:=frozen_of_row _ _ _ _ _ M.o;clear y;go_wp2_with fail;go_roundw
   case measure=>simp[intOf];omega
   case rel=>
    have aa:0<bW:=by decide
    refine⟨i+1,Y,λj=>if j=i then m else f j,by omega,by rw[W.o];omega,rfl,by go_num,q_ ?_⟩
    have a0:m<bW:=by rw[X.o];refine Nat.lt_of_lt_of_le (xa_ _ ?_) (show 10 ^ _<=10 ^ 9 from Nat.pow_le_pow_right (by decide) (by rw[List.length_drop];omega));rw[List.all_eq_true];exact λx J=>List.all_eq_true.1 d.o.dig x (List.mem_of_mem_drop J)
    exact {
     hb:=d.o.hb.trans (((a1.o.mono d.o.hb.size)).setCell (by show w.heap.size<=z+1;have:=d.o.hz;omega) _)
     hz:=d.o.hz
     h0:=by rw[heap_setCell_other _ _ _ _ (by show z≠z+1;omega)];exact a6.o
     h1:=by rw[heap_setCell_same _ _ _ _ _ _ M.o,xc_ f L]
     lo:=λj C=>by
      by_cases e:j=i
      ·simp only[if_pos e];exact a0
      ·simp only[if_neg e];exact d.o.lo j (by omega)
     hi:=λj C=>by
      simp only[if_neg (show j≠i by omega)];exact d.o.hi j (by omega)
     dig:=by rw[U.o,List.all_eq_true];exact λx J=>List.all_eq_true.1 d.o.dig x (List.mem_of_mem_take J)
     sz:=by rw[W.o];have:=a4.o;have:=d.o.sz;omega
     val:=by
      rw[U.o]
      exact D1_ (by rw[<-d.o.val];congr 1;exact ko_ (λj C=>if_neg (by omega))) (by
       show (if i=i then m else f i)=_
       rw[if_pos rfl];exact X.o) }
  ·have a8:r.size=0:=by omega
   have e1:¬(0:Int)<(r.size:Int):=by omega
   have N:r.data.toList=[]:=List.eq_nil_of_length_eq_zero ((a8_ r).trans a8);have HV:=q_ (show pv f 16=ax_ s.data.toList from by have h1:=d.o.val;rw[N]at h1;have h2:=El_ d.o.hi (16-i);rw[show i+(16-i)=16 by omega]at h2;rw[h2,<-h1];simp[ax_])
   have HF:=q_ (show ∀j,j<16->f j<bW from λj C=>by
    rcases Nat.lt_or_ge j i with h | h
    ·exact d.o.lo j h
    ·rw[d.o.hi j h];decide)
   clear h0 N
   go_wp2_with (first
    | (refine wpList_load_row rfl 291 _ rfl (z+1) rfl 291 (R_ f) (0,0) (.array 16 225) d.o.h1 (by kernel_rfl) rfl (by rw[ac_];kernel_rfl) ?_)
    | (refine m_ rfl 291 _ _ rfl z (R_ (λ_=>0)) (R_ f) 291 rfl rfl d.o.h0 (by rw[ac_,ac_]) (by rw[ac_];kernel_rfl) (o2_ f) ?_;intro wf a7 a5))
   refine bodyPost_ret (v:=.agg (R_ f)) (results_cell_row (p:=2) (ty:=291) (by kernel_rfl) _ _ z 291 (R_ f) (0,0) (.array 16 225) rfl a7 (by kernel_rfl) rfl (by rw[ac_];kernel_rfl)) rfl ⟨f,rfl,?_,HF.o,HV.o⟩;exact d.o.hb.trans (a5.below (λb _ h=>by have:=d.o.hz;omega) d.o.hb.size)
end
end Go.Proofs.YtefhfadjajcmkaaGreatDoor
