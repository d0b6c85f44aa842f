/- Back at a node of an image: the value that the node stands for. -/
import Derived.Test.YtefhfadjajcmkaaGreatDoorJM
set_option linter.unusedVariables false
set_option linter.unusedSimpArgs false
set_option maxRecDepth 100000
set_option maxHeartbeats 64000000
namespace Go.Proofs.YtefhfadjajcmkaaGreatDoor
open Go.Lib (cell_of_heap)
section
open Go
theorem wi_ {c d : Type} (l:List c) (f:Nat -> c -> d) (key:d -> Int) (e:∀i a,key (f i a)=((i:Nat):Int)):(l.mapIdx f).Pairwise (λa b=>key a<key b):=by rw[List.pairwise_iff_getElem];intro i j hi h g;rw[List.getElem_mapIdx,List.getElem_mapIdx,e,e];omega
theorem r2_ {c b : Type} (l:List c) (f:Nat -> c -> b) (key:b -> Int) (d:∀i a,key (f i a)=((i:Nat):Int)):((l.mapIdx f).map key).Nodup:=by unfold List.Nodup;rw[List.pairwise_map];exact (wi_ l f key d).imp λh=>Int.ne_of_lt h
theorem py_ {d c : Type} (l:List d) (f:Nat -> d -> c) (key:c -> Int) (e:∀i a,key (f i a)=((i:Nat):Int)):(l.mapIdx f).Pairwise (λa b=>¬dk_ (key b) (key a)<0):=
 (wi_ l f key e).imp (λh=>by rw[kk_];omega)
theorem r3_ {b : Type} {R:b -> b -> Prop} {l:List b} (h:∀x,x∈l->R x x):bm_ R l l:=⟨rfl,λi x y c a=>by
 rw[c]at a;injection a with a;subst a;exact h x (List.mem_of_getElem? c)⟩
theorem kq_ {s:ByteArray} (h:s.size<=1048576):bg_ (txV s)=true:=by
 have h1:I_ (txV s) 0=true:=by unfold txV I_;simp[a9_,h]
 unfold bg_;rw[if_neg (show ¬(txV s).kind=5 from (by decide:¬(4:Int)=5))];unfold a4_;rw[h1];rfl
theorem Cv_ {v:h_} (h:X_ v) (a:¬(v.kind=8\/v.kind=9\/v.kind=10)):bg_ v=true:=by have h2:=h.2.1;unfold bg_;rw[if_neg (by omega)];unfold a4_;rw[h.1,Bool.true_and];simp only[Bool.or_eq_true,beq_iff_eq];omega
theorem jl_ {k:ByteArray} {v:h_} (a:aw_ k=true) (b:bg_ v=true):a0_ [⟨k,v⟩]=true:=by simp[a0_,az_,inB,a,b]
theorem yn_ {k m:ByteArray} {v u:h_} (c:aw_ k=true) (d:aw_ m=true) (a:m≠k) (b:bg_ v=true) (e:bg_ u=true):a0_ [⟨k,v⟩,⟨m,u⟩]=true:=by simp[a0_,az_,inB,c,d,b,e,a]
theorem ie_ {s:ByteArray} (a:aw_ s=true):be_ [] [s]=true:=by simp[be_,inB,a]
theorem Jp_:aw_ sV=true:=by decide
theorem Mo_:aw_ sX=true:=by decide
theorem Md_:sX≠sV:=by decide
theorem Jq_ (a:Int) {v:h_} (h:X_ v):be_ [] (E_ a v).labels=true/\(E_ a v).labels.length<=65536/\a0_ (E_ a v).props=true:=by
 obtain⟨ht,b⟩:=jh_ h;unfold E_;split
 ·exact⟨ie_ (by decide),by simp,jl_ Jp_ (kq_ ht)⟩
 ·split
  ·exact⟨ie_ (by decide),by simp,jl_ Jp_ (kq_ ht)⟩
  ·split
   ·exact⟨ie_ (by decide),by simp,yn_ Jp_ Mo_ Md_ (kq_ ht) (kq_ b)⟩
   ·rename_i h1 h2 c;exact⟨ie_ (by decide),by simp,jl_ Jp_ (Cv_ h (λe=>e.elim h1 (λe=>e.elim h2 c)))⟩
theorem G7_ (a:Int) (v:h_):ij_ (E_ a v) (E_ a v):=by
 refine⟨rfl,⟨List.Perm.refl _,?_⟩,⟨List.Perm.refl _,?_⟩⟩
 ·unfold E_
  (repeat' split)<;>exact List.pairwise_singleton _ _
 ·unfold E_;split
  ·exact List.pairwise_singleton _ _
  ·split
   ·exact List.pairwise_singleton _ _
   ·split
    ·refine List.pairwise_cons.2 ⟨λp b=>?_,List.pairwise_singleton _ _⟩;rw[List.mem_singleton.1 b];show ¬g3_ sX sV<0;decide
    ·exact List.pairwise_singleton _ _
theorem G8_ {e:m_} (h:e.props=[]):jg_ e e:=⟨rfl,rfl,rfl,rfl,List.Perm.refl _,by rw[h];exact List.Pairwise.nil⟩
theorem yo_ (a:Int) (v:h_):ji_ (E_ a v)=true:=by
 unfold E_
 (repeat' split)<;>rfl
theorem G9_ (c:Int) {v:h_} (h:X_ v):ko_ (E_ c v)=v:=by
 have b:=h.1;rcases bs_ h with⟨a,e⟩ | ⟨a,e⟩ | ⟨a,_,e⟩ | ⟨a,e⟩
 ·rw[e];rfl
 ·rw[e];rfl
 ·rw[e];rfl
 ·generalize v.kind=k at a e;generalize v.text=t at e;generalize v.extra=x at e;subst e;rcases a with rfl | rfl | rfl | rfl
  ·rfl
  ·obtain⟨_,_,rfl,_⟩:=k7_ b;rfl
  ·obtain⟨_,_,rfl,_⟩:=oe_ b;rfl
  ·rfl
theorem l3_ (a:Int) {v:h_} (h:X_ v):bw_ (E_ a v)=(v,true):=by
 have b:=h.2.1;unfold bw_
 rw[if_pos (yo_ a v),G9_ a h,if_neg (by
  rintro (e | e | e)
  ·omega
  ·omega
  ·rw[h.1]at e;cases e),bd_,pf_.2 rfl]
theorem stands_place {D:List h_} (d:∀v,v∈D->X_ v) {v:h_} (a:v∈D):b8_ (D.mapIdx λi v=>E_ (i:Nat) v) (bf_ D v)=v:=by
 classical
 have b:=kn_ a;have c:D[place D v]=v:=List.getElem_idxOf b;have e0:bf_ D v=((place D v:Nat):Int):=by unfold bf_;congr
 rw[e0];unfold b8_;split
 ·rename_i n e;have h1:=List.find?_some e;obtain⟨j,g,f⟩:=List.mem_mapIdx.1 (List.mem_of_find?_eq_some e);rw[<-f]at h1 ⊢;rw[bd_]at h1;have h1:((j:Nat):Int)=((place D v:Nat):Int):=by simpa using h1
  have h2:j=place D v:=by omega
  subst h2;rw[c,l3_ _ (d v a)]
 ·rename_i e;have:=List.find?_eq_none.1 e (E_ ((place D v:Nat):Int) v) (List.mem_mapIdx.2 ⟨place D v,b,by rw[c]⟩);rw[bd_]at this;simp at this
theorem yp_ {D:List h_} (d:∀v,v∈D->X_ v) {T:List d_} (e:∀t,t∈T->t.s∈D/\t.o∈D/\m5_ t.p.text=t.p) :
    (T.mapIdx λi t=>(⟨((i:Nat):Int),bf_ D t.s,bf_ D t.o,t.p.text,[]⟩:m_)).map (d6_ (D.mapIdx λi v=>E_ (i:Nat) v))=T:=by
 refine List.ext_getElem (by simp) λi h1 h2=>?_;obtain⟨a,b,c⟩:=e _ (List.getElem_mem h2);rw[List.getElem_map,List.getElem_mapIdx];unfold d6_;simp only;rw[stands_place d a,stands_place d b,c]
theorem kr_ {t:d_} (h:dj_ t=true) (c:X_ t.p):m5_ t.p.text=t.p/\aw_ t.p.text=true:=by
 unfold dj_ at h;simp only[Bool.and_eq_true,decide_eq_true_eq]at h;have d:=h.2.2.2.1;have a:=h.2.1;rcases bs_ c with⟨b,_⟩ | ⟨b,_⟩ | ⟨b,_,_⟩ | ⟨_,e⟩
 ·omega
 ·omega
 ·omega
 ·rw[d]at e;generalize t.p = v at *;generalize v.text=s at e ⊢;generalize v.extra=x at e;subst e;obtain⟨_,_,rfl,_⟩:=k7_ a;refine⟨rfl,?_⟩;rw[Dl_]at a;have:=(Bool.and_eq_true_iff.1 a).1;unfold g0_ at this;rw[Bool.and_eq_true]at this;exact this.1
structure ai_ (T:List d_):Prop where
 len:T.length<=65536
 may:∀t,t∈T->dj_ t=true
 scal:∀t,t∈T->bn_ t
 rise:i5_ (w_ (ak_ 0)) T
theorem Ha_ {L:List d_} (h1:L.length<=65536) (h2:L.all dj_=true) (e:∀t,t∈L->OkT t):ai_ (ba_ (w_ (ak_ 0)) L):=by have f:=List.all_eq_true.1 h2;have d:∀t,t∈L->bn_ t:=λt ht=>c5_ (f t ht) (e t ht);have c:=d1_ (a7_ (ak_ 0)) (l:=L) (λa g b hb h0=>hl_ (dd_ 0) (d a g) (d b hb) h0);exact⟨Nat.le_trans (ls_ _ L) h1,λt ht=>f t ((c.2 t).1 ht),λt ht=>d t ((c.2 t).1 ht),c.1⟩
section
variable {T:List d_}
theorem ai_.all (h:ai_ T):T.all dj_=true:=List.all_eq_true.2 h.may
theorem ai_.again (h:ai_ T):ba_ (w_ (ak_ 0)) T=T:=by have c:=d1_ (a7_ (ak_ 0)) (l:=T) (λa d b hb h0=>hl_ (dd_ 0) (h.scal a d) (h.scal b hb) h0);exact f0_ (a7_ _) c.1 h.rise c.2
theorem ai_.ends (h:ai_ T):∀v,v∈dl_ T->X_ v:=λv a=>by
 obtain⟨t,ht,e | e⟩:=pd_ a
 ·rw[e];exact (h.scal t ht).s
 ·rw[e];exact (h.scal t ht).o
theorem ai_.vals (h:ai_ T):i5_ G_ (R_ T)/\∀v,v∈R_ T↔v∈dl_ T:=
 d1_ d2_ (l:=dl_ T) λa c b hb h0=>ej_ (h.ends a c) (h.ends b hb) h0
theorem ai_.val (h:ai_ T):∀v,v∈R_ T->X_ v:=λv a=>h.ends v ((h.vals.2 v).1 a)
theorem ai_.vlen (h:ai_ T):(R_ T).length<=131072:=by have h1:=ls_ G_ (dl_ T);have h2:=lt_ T;have a:=h.len;unfold R_;omega
theorem ai_.mem (h:ai_ T):∀t,t∈T->t.s∈R_ T/\t.o∈R_ T:=λt ht=>
 ⟨(h.vals.2 _).2 (List.mem_flatMap.2 ⟨t,ht,by simp⟩),(h.vals.2 _).2 (List.mem_flatMap.2 ⟨t,ht,by simp⟩)⟩
theorem ai_.fit (h:ai_ T):m7_ (af_ T):=Jj_ (Nat.le_trans h.vlen (by omega)) h.len h.val h.mem (λt ht=>(h.scal t ht).p)
theorem ai_.num (h:ai_ T):Ct_ (af_ T):=λn c p a=>by
 obtain⟨i,hi,e⟩:=List.mem_mapIdx.1 c;have b:=h.val _ (List.getElem_mem hi);rw[<-e]at a;generalize (R_ T)[i]=v at b a;unfold E_ at a;split at a
 ·rw[List.mem_singleton.1 a];exact d7_ ..
 ·split at a
  ·rw[List.mem_singleton.1 a];exact d7_ ..
  ·split at a
   ·rcases List.mem_cons.1 a with e | e
    ·rw[e];exact d7_ ..
    ·rw[List.mem_singleton.1 e];exact d7_ ..
   ·rw[List.mem_singleton.1 a];exact⟨b.2.2.1,b.2.2.2⟩
theorem ai_.graph (h:ai_ T):cw_ (af_ T)=true:=by
 unfold cw_;rw[Bool.and_eq_true,Bool.and_eq_true,decide_eq_true_eq];have c:(af_ T).nodes.map i_.id=(List.range (R_ T).length).map (λi=>((i:Nat):Int)):=by refine List.ext_getElem (by unfold af_;simp) λi h1 h2=>?_;simp only[List.getElem_map,af_,List.getElem_mapIdx,bd_,List.getElem_range]
 refine⟨⟨?_,?_⟩,?_,?_⟩
 ·show ((R_ T).mapIdx _).length<=_;rw[List.length_mapIdx];exact h.vlen
 ·show (T.mapIdx _).length<=_;rw[List.length_mapIdx];exact h.len
 ·refine (fb_ tn_).2 ⟨λn j=>⟨?_,by simp⟩,r2_ _ _ i_.id (λi v=>bd_ _ _)⟩;obtain⟨i,hi,e⟩:=List.mem_mapIdx.1 j;rw[<-e];exact⟨by rw[bd_];omega,Jq_ _ (h.val _ (List.getElem_mem hi))⟩
 ·refine (fb_ (to_ _)).2 ⟨λe g=>⟨?_,by simp⟩,r2_ _ _ m_.id (λi t=>rfl)⟩;obtain⟨i,hi,f⟩:=List.mem_mapIdx.1 g;have ht:=List.getElem_mem hi;have b:=h.mem _ ht
  have a:∀v,v∈R_ T->bf_ (R_ T) v∈(af_ T).nodes.map i_.id:=λv d=>by
   rw[c];unfold bf_;classical
   exact List.mem_map.2 ⟨_,List.mem_range.2 (kn_ d),rfl⟩
  rw[<-f];exact⟨by show (0:Int)<=((i:Nat):Int);omega,a _ b.1,a _ b.2,(kr_ (h.may _ ht) (h.scal _ ht).p).2,by rfl⟩
theorem ai_.srt (b:ai_ T):g4_ (af_ T) (af_ T):=
 ⟨⟨_,r3_ (λn a=>by
     obtain⟨i,hi,e⟩:=List.mem_mapIdx.1 a;rw[<-e];exact G7_ _ _),List.Perm.refl _,py_ _ _ i_.id (λi v=>bd_ _ _)⟩,
  ⟨_,r3_ (λn a=>by
     obtain⟨i,hi,e⟩:=List.mem_mapIdx.1 a;rw[<-e];exact G8_ rfl),List.Perm.refl _,py_ _ _ m_.id (λi t=>rfl)⟩⟩
theorem ai_.plain (h:ai_ T) {G:y_} (a:jj_ (af_ T) G):G=af_ T:=by obtain⟨c,h1,h2,b⟩:=a;have e:=pw_ h.graph h1 h.srt;subst e;exact yk_ h.graph h1 h2 b
theorem ai_.stands (h:ai_ T):∀n,n∈(af_ T).nodes->(bw_ n).2=true:=λn a=>by
 obtain⟨i,hi,e⟩:=List.mem_mapIdx.1 a;rw[<-e,l3_ _ (h.val _ (List.getElem_mem hi))]
theorem ai_.edges (h:ai_ T):(af_ T).edges.map (d6_ (af_ T).nodes)=T:=
 yp_ h.val λt ht=>⟨(h.mem t ht).1,(h.mem t ht).2,(kr_ (h.may t ht) (h.scal t ht).p).1⟩
theorem ai_.back (h:ai_ T):bx_ (af_ T)=some T:=by unfold bx_;rw[if_pos ⟨h.stands,by rw[h.edges];exact h.len,by rw[h.edges];exact h.all,by rw[h.edges,h.again]⟩,h.edges]
end
section
variable {T:List d_} {n0:i_} {r:List i_} {e0:m_} {q:List m_}
end
end
section
open Go Go.RowKit
theorem wj_ (b:List m_) (e:m_) (q:List ByteArray) (a d:Int):ck_ (b++[e]) q (aj_ (b++[e]) a d)=ck_ b q (aj_ b a d)++(if (m6_ e a d&&c1_ q e)=true then [e.id] else []):=by
 rw[rn_];unfold ck_;rw[List.filterMap_append];congr 1
 ·have g:∀l:List Nat,(∀i,i∈l->i<b.length)->(l.filterMap λi=>((b++[e])[i]?).bind λe=>if c1_ q e=true then some e.id else none)=l.filterMap λi=>(b[i]?).bind λe=>if c1_ q e=true then some e.id else none:=λl=>by
    induction l with
    | nil=>intro _;rfl
    | cons i r h=>
     intro c;rw[List.filterMap_cons,List.filterMap_cons,h (λj f=>c j (List.mem_cons_of_mem _ f)),List.getElem?_append_left (c i (List.mem_cons_self ..))]
  exact g _ λi hi=>zn_ hi
 ·by_cases hb:m6_ e a d=true
  ·rw[if_pos hb];by_cases ht:c1_ q e=true
   ·simp[hb,ht]
   ·simp[hb,ht]
  ·simp[hb]
theorem wk_ (b:List m_) (q:List ByteArray) (a d:Int) (k:Nat) (g:k<=b.length):ck_ (b.take k) q (aj_ (b.take k) a d)=((b.take k).filter (λe=>m6_ e a d&&c1_ q e)).map m_.id:=by
 induction k with
 | zero=>simp[ck_,aj_]
 | succ k f=>
  have c:b[k]?=some (b[k]'(by omega)):=List.getElem?_eq_getElem _;rw[g_ c,wj_,f (by omega),List.filter_append,List.map_append];congr 1
  by_cases h:(m6_ (b[k]'(by omega)) a d&&c1_ q (b[k]'(by omega)))=true
  ·rw[if_pos h,List.filter_cons,if_pos h];rfl
  ·rw[if_neg h,List.filter_cons,if_neg h];rfl
theorem r4_ (b:List m_) (q:List ByteArray) (a d:Int):ck_ b q (aj_ b a d)=(b.filter (λe=>m6_ e a d&&c1_ q e)).map m_.id:=by have h:=wk_ b q a d b.length (Nat.le_refl _);rw[List.take_length]at h;exact h
end
section
open Go
theorem hy_ {b c : Type} (l:List b):∀(f:Nat -> b -> c) (P:c -> Bool) (Q:b -> Bool),(∀i t,t∈l->P (f i t)=Q t)->((l.mapIdx f).filter P).length=(l.filter Q).length:=by
 induction l with
 | nil=>intro f P Q _;rfl
 | cons a l d=>
  intro f P Q h;have h1:=d (λi=>f (i+1)) P Q (λi t ht=>h (i+1) t (List.mem_cons_of_mem _ ht));rw[List.mapIdx_cons,List.filter_cons,List.filter_cons,h 0 a List.mem_cons_self];split
  ·rw[List.length_cons,List.length_cons,h1]
  ·exact h1
theorem pz_ {T:List d_} (f:ai_ T) {i:Nat} {v:h_} (d:(R_ T)[i]?=some v) {x:h_} (g:x∈R_ T):bf_ (R_ T) x=((i:Nat):Int)↔x=v:=by
 classical
 obtain⟨hi,e⟩:=List.getElem?_eq_some_iff.1 d;have e0:bf_ (R_ T) x=((place (R_ T) x:Nat):Int):=by unfold bf_;congr
 have a:=kn_ g;have b:(R_ T)[place (R_ T) x]=x:=List.getElem_idxOf a;have c:=List.pairwise_iff_getElem.1 f.vals.1;rw[e0];constructor
 ·intro h;have h:place (R_ T) x=i:=by omega
  rw[<-b,<-e];congr
 ·rintro rfl;rcases Nat.lt_trichotomy (place (R_ T) x) i with h | h | h
  ·have:=c _ _ a hi h;rw[b,e,c3_]at this;omega
  ·omega
  ·have:=c _ _ hi a h;rw[b,e,c3_]at this;omega
theorem wl_ {T:List d_} (a:ai_ T) {t u:d_} (ht:t∈T) (b:u∈T):t.p.text=u.p.text↔t.p=u.p:=by
 constructor
 ·intro h;rw[<-(kr_ (a.may t ht) (a.scal t ht).p).1,<-(kr_ (a.may u b) (a.scal u b).p).1,h]
 ·intro h;rw[h]
theorem Lg_ {v p:h_} {t:d_} (b:v.kind≠0) (a:p.kind≠0):bk_ ⟨v,p,nmV ⟨#[]⟩⟩ t=true↔t.s=v/\t.p=p:=by
 rw[h2_];constructor
 ·intro h;exact⟨(h 0 (by omega)).1 b,(h 1 (by omega)).1 a⟩
 ·rintro⟨h1,h2⟩ i hi;rcases (show i=0\/i=1\/i=2 by omega) with rfl | rfl | rfl
  ·exact⟨λ_=>h1,λh=>absurd h b⟩
  ·exact⟨λ_=>h2,λh=>absurd h a⟩
  ·exact⟨λh=>absurd rfl h,λ_ k _ _ h=>absurd rfl h⟩
theorem Lh_ {v p:h_} {t:d_} (b:v.kind≠0) (a:p.kind≠0):bk_ ⟨nmV ⟨#[]⟩,p,v⟩ t=true↔t.o=v/\t.p=p:=by
 rw[h2_];constructor
 ·intro h;exact⟨(h 2 (by omega)).1 b,(h 1 (by omega)).1 a⟩
 ·rintro⟨h1,h2⟩ i hi;rcases (show i=0\/i=1\/i=2 by omega) with rfl | rfl | rfl
  ·exact⟨λh=>absurd rfl h,λ_ k _ _ h=>absurd rfl h⟩
  ·exact⟨λ_=>h2,λh=>absurd h a⟩
  ·exact⟨λ_=>h1,λh=>absurd h b⟩
theorem Li_ {T:List d_} (a:ai_ T) {i:Nat} {v:h_} (b:(R_ T)[i]?=some v) {u:d_} (e:u∈T) :
    (ck_ (af_ T).edges [u.p.text] (aj_ (af_ T).edges ((i:Nat):Int) 1)).length=(T.filter (bk_ ⟨v,u.p,nmV ⟨#[]⟩⟩)).length:=by
 have c:v.kind≠0:=by have:=(a.val v (List.mem_of_getElem? b)).2.1;omega
 have d:u.p.kind≠0:=by have:=(a.scal u e).p.2.1;omega
 rw[r4_,List.length_map];refine hy_ T _ _ _ λj t ht=>?_;have h1:=pz_ a b (a.mem t ht).1;have h2:=wl_ a ht e;rw[Bool.eq_iff_iff,Lg_ c d,<-h1,<-h2];simp[m6_,c1_,inB]
theorem Lj_ {T:List d_} (a:ai_ T) {i:Nat} {v:h_} (b:(R_ T)[i]?=some v) {u:d_} (e:u∈T) :
    (ck_ (af_ T).edges [u.p.text] (aj_ (af_ T).edges ((i:Nat):Int) (-1))).length=(T.filter (bk_ ⟨nmV ⟨#[]⟩,u.p,v⟩)).length:=by
 have c:v.kind≠0:=by have:=(a.val v (List.mem_of_getElem? b)).2.1;omega
 have d:u.p.kind≠0:=by have:=(a.scal u e).p.2.1;omega
 rw[r4_,List.length_map];refine hy_ T _ _ _ λj t ht=>?_;have h1:=pz_ a b (a.mem t ht).2;have h2:=wl_ a ht e;rw[Bool.eq_iff_iff,Lh_ c d,<-h1,<-h2];simp[m6_,c1_,inB]
end
section
open Go Go.RowKit Go.Maps
theorem b9_.sownT {w:World} {F:Nat->Prop} {l:List d_} {s:Value} (h:b9_ 41 18 CT w l s) (d:∀g,s.ownBlock=some g->F g):B_ 41 18 TrR w F l s:=by obtain⟨cs,a,b⟩:=h;exact⟨cs,a,λi hi=>eg_.size (b i _ (List.getElem?_eq_getElem hi)),d,λi x c=>eg_.trR (b i x c) w _⟩
def ssE (A:Option Addr) (c:Nat) (B:Option Addr) (d:Nat):Nat->Value:=λn=>if n=0 then .slice A 0 c else if n=1 then .slice none 0 0 else .slice B 0 d
theorem Hb_ (A:Option Addr) (c:Nat) (B:Option Addr) (d:Nat) (i:Nat):∃X q,ssE A c B d i = .slice X 0 q:=by
 unfold ssE;split
 ·exact⟨_,_,rfl⟩
 ·split
  ·exact⟨_,_,rfl⟩
  ·exact⟨_,_,rfl⟩
theorem Hc_ (a:List i_) (e:m_) (A:Option Addr) (c:Nat) (B:Option Addr) (d:Nat) (W:World):(Instr.build 41 #[(0,.agg (c_ (b8_ a e.src) (.slice A 0 c))),(1,.agg (c_ (m5_ e.type) (.slice none 0 0))),(2,.agg (c_ (b8_ a e.dst) (.slice B 0 d)))]).run Tryz.prog W = .ok (.agg (s_ (d6_ a e) (ssE A c B d))) W:=
 lr_ (d6_ a e) (ssE A c B d) W
theorem r5_ {T:List d_} (h:ai_ T):((af_ T).nodes.length<=1000000000/\(af_ T).edges.length<=1000000000)/\∀n,n∈(af_ T).nodes->n.labels.length<=1000000000/\n.props.length<=1000000000/\∀p,p∈n.props->p.v.list=[]:=by
 refine⟨⟨?_,?_⟩,λn a=>?_⟩
 ·show ((R_ T).mapIdx _).length<=_;rw[List.length_mapIdx];have:=h.vlen;omega
 ·show (T.mapIdx _).length<=_;rw[List.length_mapIdx];have:=h.len;omega
 ·obtain⟨i,hi,e⟩:=List.mem_mapIdx.1 a;rw[<-e];exact⟨(l2_ _ _).1,(l2_ _ _).2,pq_ _ (cm_ (h.val _ (List.getElem_mem hi)))⟩
theorem wm_ {T:List d_}:∀e,e∈(af_ T).edges->e.props=[]:=λe a=>by
 obtain⟨i,hi,e⟩:=List.mem_mapIdx.1 a;rw[<-e]
theorem Lk_ (t:ByteArray) (W:World):(Instr.build 39 #[(0,.int .i64 8),(3,.string t)]).run Tryz.prog W = .ok (.agg (c_ (m5_ t) (.slice none 0 0))) W:=ni_ 8 t W
theorem tr_ (g:y_) (b4:m7_ g) (F:Nat->Prop) (u:Value) (w:World) (hF:∀b,F b->b<w.heap.size) (hg:GrR w F g u) (c9:Ct_ g) (bu:F_ w) (di:as_ w) :
    Calls Tryz.prog 29 #[u] w (r0_ g w):=by
 have cp:=q_ (λ(W:World) (hb:Below w.heap.size w W)=>hx_ g b4 F u W (λb k=>Nat.lt_of_lt_of_le (hF b k) hb.size) (hg.under hb hF) (f_ bu hb));unfold ic_ at cp;have HG:=q_ bu;have ex:=q_ di;have eo:=q_ c9;have Z:=q_ b4;obtain⟨NV,EV,rfl,⟨AN,cN,rfl,_,_⟩,AE,cE,rfl,_,_⟩:=hg;obtain⟨n1,f4⟩:=a_ g.nodes.length;obtain⟨n2,fh⟩:=a_ g.edges.length;rw[f4.o,fh.o]at cp ⊢;obtain⟨z,Hz⟩:=a_ w.heap.size;obtain⟨w1,bf⟩:=a_ (w.alloc (.cells #[.slice AN n1 cN,.slice AE n2 cE] 54));have cc:=q_ (show Below w.heap.size w w1 from by rw[<-bf.o];exact (Below.refl _ _).alloc (Nat.le_refl _) _);have ez:=q_ (show w1.heap[z]?=some (.cells #[.slice AN n1 cN,.slice AE n2 cE] 54 (0,0)) from by rw[<-bf.o,<-Hz.o];exact heap_alloc_new w _);clear b4 bu di c9 hF;go_enter Tryz.func29,Tryz.ntmps29
 go_upto_region 1 with fail;rw[bf.o,Hz.o];clear bf;go_wp2_with ((with_reducible refine e_ (some 17) ?_);refine A_ rfl 54 _ rfl z 0 rfl (#[.slice AN n1 cN,.slice AE n2 cE]) _ (p_ ez.o) Tryz.underlying54 rfl (U_ _ _) ?_)
 refine (cp.o w1 cc.o).mono ?_;rintro e w2 ⟨hb,fr⟩;have bh:=q_ (cc.o.trans (hb.mono cc.o.size));rcases fr with⟨hm,rfl⟩ | ⟨hm,p,g',rfl,a8,br⟩
 ·have HM:=q_ hm;clear hm hb;go_wp2_with fail;go_ret2;exact⟨bh.o,.inl ⟨HM.o,rfl⟩⟩
 ·have HM:=q_ hm;have fj:=q_ br;obtain⟨Ns,Es,mh,mt,ma,g3,n0,a8⟩:=a8;have cx:=q_ (tp_ Z.o br);have d4:=q_ (nl_ hm br);have c2:=q_ (Ci_ g' _ p Ns Es mh mt ma g3 n0 w2 a8 cx.o (px_ d4.o).1 (px_ d4.o).2);unfold zo_ at c2;clear hm br a8 hb;go_wp2_with fail;refine c2.o.mono ?_;rintro e s ⟨A,c,B,d,x,C,rfl,e7,a6,d5,dk⟩;have R:=q_ (show jj_ g ⟨x,C⟩ from ⟨g',fj.o,d5,dk⟩);have eb:=q_ a6;have bw:=q_ (bh.o.trans (e7.mono bh.o.size));obtain⟨m1,aq⟩:=a_ x.length;obtain⟨O,ac⟩:=a_ C.length;rw[aq.o,ac.o]at eb ⊢;have fw:=q_ (show w.heap.size<=w2.heap.size from bh.o.size)
  have fx:=q_ (show SRd 3 NoR s (λb=>w2.heap.size<=b/\b<s.heap.size) x A m1 from by
   obtain⟨_,_,e,h1,h2⟩:=a6
   cases e;rw[<-aq.o];exact h1.rd)
  have fv:=q_ (show SRd 5 EdR s (λb=>w2.heap.size<=b/\b<s.heap.size) C B O from by
   obtain⟨_,_,e,h1,h2⟩:=a6
   cases e;rw[<-ac.o];exact h2.rd)
  clear e7 a6 d5 dk c2;obtain⟨z6,az⟩:=a_ s.heap.size;obtain⟨wa,f⟩:=a_ (s.alloc (.cells #[.slice none 0 0,.slice none 0 0] 54));have I:=q_ (show Below s.heap.size s wa from by rw[<-f.o];exact (Below.refl _ _).alloc (Nat.le_refl _) _);have D:=q_ (show wa.heap[z6]?=some (.cells #[.slice none 0 0,.slice none 0 0] 54 (0,0)) from by rw[<-f.o,<-az.o];exact heap_alloc_new s _);go_upto_region 5 with ((with_reducible refine z_ 6 ?_);rw[f.o,az.o];refine r_ rfl 54 _ _ rfl z6 (#[.slice none 0 0,.slice none 0 0]) (#[.slice A m1 c,.slice B O d]) 54 rfl rfl D.o rfl (U_ _ _) (c7_ _ _ _ _ _ _) ?_;intro w4 bg da)
  have cs:=q_ (show Below s.heap.size s w4 from j_ I.o da (λb e=>by have e:b=z6:=e;have h2:s.heap.size=z6:=az.o;omega));obtain⟨m,Hm⟩:=a_ w4.heap.size;obtain⟨w5,bp⟩:=a_ (w4.alloc (.map #[] 0));have f1:=q_ (show (Instr.makeMap 134 none).run Tryz.prog w4 = .ok (.map (some m)) w5 from by rw[<-bp.o,<-Hm.o];exact Jk_ w4);have cf:=q_ (show Below w4.heap.size w4 w5 from by rw[<-bp.o];exact (Below.refl _ _).alloc (Nat.le_refl _) _);have c6:=q_ ((cf.o.block z6 (b_ bg)).trans bg);have cb:=q_ (show StM w5 m [] from StM.fresh (by rw[<-bp.o,<-Hm.o];exact heap_alloc_new w4 _));have N:=q_ (show Below s.heap.size s w5 from cs.o.trans (cf.o.mono cs.o.size));have dg:=q_ (show Below w.heap.size w w5 from bw.o.trans (N.o.mono bw.o.size));have ak:=q_ (show s.heap.size=z6/\z6<m/\m<w5.heap.size/\w.heap.size<=w2.heap.size/\w.heap.size<=s.heap.size from ⟨az.o,by have:=b_ bg;have h2:w4.heap.size=m:=Hm.o;omega,cb.o.lt,fw.o,bw.o.size⟩);have aj:=q_ (show m1<=2000000/\O<=2000000 from by obtain⟨g8,h1,h2,h3⟩:=R.o;have hl:=G3_ h1;have h4:=h2.1;have h5:=h3.1;have h6:=Z.o.1;have h7:=Z.o.2.1;have h8:x.length=m1:=aq.o;have h9:C.length=O:=ac.o;simp only at h4 h5;omega);clear bg da f D I bp az Hm;go_upto_region 6 with ((with_reducible refine e_ (some 25) ?_);refine F1_ rfl 134 rfl m _ f1.o ?_)
  have x0:w5.cell? ⟨z6,0,none⟩=some (.slice A m1 c):=cell_of_heap c6.o 0;go_wp2_with fail;clear x0;go_loopw [29] (λcj y=>∃k:Nat,k<=m1/\cj = .int .i64 (k:Nat)/\Q_ (∃l,Turn (λb=>b=m\/w5.heap.size<=b) w5 y/\StM y m l/\bm_ ry_ (x.take k) l)) (λcj _=>m1-(intOf cj).toNat)
  case atStart=>exact⟨0,by omega,rfl,q_ ⟨[],Turn.refl _ _,cb.o,bm_.nil _⟩⟩
  case round=>
   rename World=>y
   obtain⟨k,hk,rfl,hR⟩:=hrel;obtain⟨l,ht,a8,dh⟩:=hR.o;have X:=q_ ht;have g0:=q_ ht;have d2:=q_ a8;have bz:=q_ dh;have a7:=q_ (show Below w.heap.size w y from j_ dg.o ht (λb h=>by have h1:=ak.o;have h2:=dg.o.size;rcases h with h | h<;>omega))
   have bt:=q_ (show ∀p:Addr,p.block<s.heap.size->y.cell? p=s.cell? p from λp hp=>(X.o.cell (Nat.lt_of_lt_of_le hp N.o.size) (λh=>by have h1:=ak.o;have h2:=N.o.size;rcases h with h | h<;>omega)).trans (N.o.cell hp))
   have b9:=q_ ((X.o.block z6 (b_ c6.o) (λh=>by have h1:=ak.o;rcases h with h | h<;>omega)).trans c6.o)
   clear hR ht a8 dh;by_cases a3:k<m1
   ·have a1:(0:Int)<=k:=by omega
    have a2:(k:Int)<m1:=by omega
    have c0:=aj.o;have fa:IntKind.i64.wrap ((k:Int)+1)=(k:Int)+1:=IntWalk.i64_in _ (by omega);clear c0;have d8:=q_ a3;obtain⟨nd,bn⟩:∃nd,x[k]?=some nd:=⟨_,List.getElem?_eq_getElem (by rw[aq.o];exact a3)⟩;have cd:=q_ bn;have dm:=q_ ((gt_ Z.o R.o).2.2.1 nd (List.mem_of_getElem? bn));obtain⟨ad,cn,rfl,au,a4,dr,aa⟩:=fx.o.at_ bn;have fz:=q_ (λ(W:World) (hW:∀p:Addr,p.block<s.heap.size->W.cell? p=s.cell? p)=>(show NoR W (λb=>w2.heap.size<=b/\b<s.heap.size) nd cn from NoR.good.keep aa (λp hp=>hW p hp.2)));have LN:=q_ (λj (hj:j<cn.size)=>(show y.cell? ((ad.add (k*3)).add j)=cn[j]? from by rw[add_of_add,bt.o _ (by rw[a3_];exact au.2)];exact dr j (by rw[a4]at hj;exact hj)));have IN:=q_ (show (Tryz.prog.info? 72).map (·.size)=some cn.size from pe_.trans (congrArg some a4.symm));have ON:=q_ (ta_ aa);have SN:=q_ (show cn.size=(#[.int .i64 0,.slice none 0 0,.slice none 0 0]:Array Value).size from a4);have fk:=q_ (show cn[0]?=some (.int .i64 nd.id) from by obtain⟨_,_,e,_⟩:=aa;rw[e];rfl);clear a3 bn au a4 dr aa;obtain⟨z9,c1⟩:=a_ y.heap.size;obtain⟨wa,f⟩:=a_ (y.alloc (.cells #[.int .i64 0,.slice none 0 0,.slice none 0 0] 72));have I:=q_ (show Below y.heap.size y wa from by rw[<-f.o];exact (Below.refl _ _).alloc (Nat.le_refl _) _);have D:=q_ (show wa.heap[z9]?=some (.cells #[.int .i64 0,.slice none 0 0,.slice none 0 0] 72 (0,0)) from by rw[<-f.o,<-c1.o];exact heap_alloc_new y _)
    go_upto_region 9 with (first
     | ((with_reducible refine e_ (some 32) ?_);refine M_ (by rfl) 72 _ rfl rfl cn _ LN.o Tryz.underlying72 rfl IN.o ?_)
     | ((with_reducible refine z_ 9 ?_);rw[f.o,c1.o];refine r_ rfl 72 _ _ rfl z9 (#[.int .i64 0,.slice none 0 0,.slice none 0 0]) cn 72 rfl rfl D.o SN.o IN.o ON.o ?_;intro M av ao))
    have a9:=q_ av;have a5:=q_ (show Below y.heap.size y M from j_ I.o ao (λb e=>by have e:b=z9:=e;have h2:y.heap.size=z9:=c1.o;omega));have ft:=q_ (a7.o.trans (a5.o.mono a7.o.size));have e6:=q_ (show s.heap.size<=y.heap.size from Nat.le_trans N.o.size X.o.size);have et:=q_ (show ∀p:Addr,p.block<s.heap.size->M.cell? p=s.cell? p from λp hp=>(a5.o.cell (Nat.lt_of_lt_of_le hp e6.o)).trans (bt.o p hp));clear av ao f D LN;obtain⟨id,L,P⟩:=nd;have bi:=q_ (rr_ id L P (λb=>w2.heap.size<=b/\b<s.heap.size) cn M (λb h=>Nat.lt_of_lt_of_le h.2 (Nat.le_trans e6.o a5.o.size)) (fz.o M et.o) (f_ HG.o ft.o) dm.o.1);unfold nj_ at bi;obtain⟨tv,db⟩:=a_ (bw_ ⟨id,L,P⟩).1;obtain⟨tb,cg⟩:=a_ (bw_ ⟨id,L,P⟩).2;rw[db.o,cg.o]at bi;go_wp2_with ((with_reducible refine e_ (some 34) ?_);refine A_ rfl 72 _ rfl z9 0 rfl cn _ (p_ a9.o) Tryz.underlying72 rfl IN.o ?_)
    refine bi.o.mono ?_;rintro e wc ⟨At,ct,rfl,cr⟩;obtain⟨cv,aw⟩:=H_ tv (.slice At 0 ct);rw[aw.o];have cz:=q_ (am_.trans (congrArg some aw.size.symm));have fo:=q_ (show cv.all (·.oneCell')=true from by rw[<-aw.o];kernel_rfl);have d7:=q_ cr;have b6:=q_ ((cr.block z9 (b_ a9.o)).trans a9.o);clear cr bi;obtain⟨ar,b0⟩:=a_ wc.heap.size;obtain⟨wd,bj⟩:=a_ (wc.alloc (.cells #[.int .i64 0,.bool false,.int .i64 0,.string ⟨#[]⟩,.string ⟨#[]⟩,.slice none 0 0] 39));have g1:=q_ (show Below wc.heap.size wc wd from by rw[<-bj.o];exact (Below.refl _ _).alloc (Nat.le_refl _) _);have ec:=q_ (show wd.heap[ar]?=some (.cells #[.int .i64 0,.bool false,.int .i64 0,.string ⟨#[]⟩,.string ⟨#[]⟩,.slice none 0 0] 39 (0,0)) from by rw[<-bj.o,<-b0.o];exact heap_alloc_new wc _);go_upto_region 10 with ((with_reducible refine z_ 10 ?_);rw[bj.o,b0.o];refine r_ rfl 39 _ _ rfl ar (#[.int .i64 0,.bool false,.int .i64 0,.string ⟨#[]⟩,.string ⟨#[]⟩,.slice none 0 0]) cv 39 rfl rfl ec.o aw.size cz.o fo.o ?_;intro we d6 d9)
    have fy:=q_ d6;have df:=q_ (show Below wc.heap.size wc we from j_ g1.o d9 (λb e=>by have e:b=ar:=e;have h2:wc.heap.size=ar:=b0.o;omega));have el:=q_ ((df.o.block z9 (b_ b6.o)).trans b6.o);have bc:=q_ (show Below y.heap.size y we from a5.o.trans ((d7.o.trans (df.o.mono d7.o.size)).mono a5.o.size));have ei:=q_ (show Below w.heap.size w we from a7.o.trans (bc.o.mono a7.o.size));clear d6 d9 bj ec b6
    cases tb with
    | false=>
     have ah:=q_ (show bx_ ⟨x,C⟩=none from by
      unfold bx_;rw[if_neg];rintro⟨h,_⟩;have:=h _ (List.mem_of_getElem? cd.o);rw[cg.o]at this
      cases this)
     go_wp2_with fail;go_ret2;exact⟨ei.o,.inr ⟨HM.o,_,R.o,.inl ⟨ah.o,rfl⟩⟩⟩
    | true=>
     have fi:=q_ (show VI id from dm.o.2);have eu:=q_ (show id∉l.map (·.1) from by rw[G4_ bz.o];exact pl_ (pt_ (yl_ HM.o R.o)) cd.o);have e0:we.cell? ⟨z9,0,none⟩=some (.int .i64 id):=(cell_of_heap el.o 0).trans fk.o;obtain⟨wf,cu,d3,de⟩:=Cm_ (d2.o.on bc.o) fi.o eu.o (.agg cv);have eh:=q_ cu;have fc:=q_ d3;have ew:=q_ de;have fs:=q_ (show ry_ ⟨id,L,P⟩ (id,.agg cv) from ⟨rfl,cg.o,At,ct,by rw[db.o,aw.o]⟩);clear cu d3 de
     go_wp2_with (first
      | ((with_reducible refine e_ (some 43) ?_);refine A_ rfl 39 _ rfl ar 0 rfl cv _ (p_ fy.o) Tryz.underlying39 rfl cz.o ?_)
      | (at_mapUpdate;refine Lf_ rfl 134 _ _ _ rfl _ _ _ rfl rfl rfl wf eh.o ?_))
     go_roundw
     case rel=>exact⟨k+1,by have:=d8.o;omega,by go_num,q_ ⟨l++[(id,.agg cv)],(X.o.trans (Turn.ofB bc.o)).trans (ew.o.mono (λi _ e=>.inl e)),fc.o,by rw[g_ cd.o];exact bz.o.snoc fs.o⟩⟩
     case measure=>have:=d8.o;simp[intOf];omega
   ·have a2:¬(k:Int)<m1:=by omega
    have am:=q_ (show bm_ ry_ x l from by have h:=bz.o;rwa [List.take_of_length_le (by have h2:x.length=m1:=aq.o;omega)]at h);have b5:=q_ (show ∀n,n∈x->(bw_ n).2=true/\qi_ n/\∀p,p∈n.props->tq_ p.v from λn hn=>⟨by obtain⟨i,hi,e⟩:=List.mem_iff_getElem.1 hn;have hl:=am.o.1;exact (am.o.2 i n _ (by rw[<-e];exact List.getElem?_eq_getElem hi) (List.getElem?_eq_getElem (by omega))).2.1,((gt_ Z.o R.o).2.2.1 n hn).1,ym_ eo.o R.o n hn⟩);obtain⟨i0,du,ea,dj,ds⟩:=info_parts zc_;have fb:=q_ du;have fn:=q_ ea;have fg:=q_ dj;have fu:=q_ ds;clear du ea dj ds;have x1:y.cell? ⟨z6,1,none⟩=some (.slice B O d):=cell_of_heap b9.o 1;clear a3;have f5:=q_ (show LdP 41 18 CT y ((C.take 0).map (d6_ x)) (.slice none 0 0) y from LdP.start y);go_wp2_with fail;clear a2 x1;go_loopw [12,48] (λfp ck E=>∃(j:Nat) (S:Value),j<=O/\ck = .int .i64 (j:Nat)/\S=fp/\Q_ (LdP 41 18 CT y ((C.take j).map (d6_ x)) S E)) (λ_ ck _=>O-(intOf ck).toNat)
    case atStart=>exact⟨0,_,by omega,rfl,rfl,q_ f5.o⟩
    case round=>
     rename World=>E
     obtain⟨j,S,hj,rfl,rfl,bl⟩:=hrel;have G:=q_ bl.o;have ag:=q_ (show Below y.heap.size y E from bl.o.hb);have g6:=q_ (show ∀p:Addr,p.block<s.heap.size->E.cell? p=s.cell? p from λp hp=>(bl.o.hb.cell (Nat.lt_of_lt_of_le hp (Nat.le_trans N.o.size X.o.size))).trans (bt.o p hp));clear bl;by_cases a3:j<O
     ·have a1:(0:Int)<=j:=by omega
      have a2:(j:Int)<O:=by omega
      have c0:=aj.o;have fa:IntKind.i64.wrap ((j:Int)+1)=(j:Int)+1:=IntWalk.i64_in _ (by omega);clear c0;have co:=q_ a3;obtain⟨J,af⟩:∃J,C[j]?=some J:=⟨_,List.getElem?_eq_getElem (by rw[ac.o];exact a3)⟩;have f8:=q_ af;have ca:=q_ ((gt_ Z.o R.o).2.2.2 J (List.mem_of_getElem? af));obtain⟨bd,ce,rfl,au,a4,ef,ch⟩:=fv.o.at_ af;have LE:=q_ (λi (hi:i<ce.size)=>(show E.cell? ((bd.add (j*5)).add i)=ce[i]? from by rw[add_of_add,g6.o _ (by rw[a3_];exact au.2)];exact ef i (by rw[a4]at hi;exact hi)));have IE:=q_ (show (Tryz.prog.info? 74).map (·.size)=some ce.size from x1_.trans (congrArg some a4.symm));have OE:=q_ (tb_ ch);have SE:=q_ (show ce.size=(#[.int .i64 0,.int .i64 0,.int .i64 0,.string ⟨#[]⟩,.slice none 0 0]:Array Value).size from a4);obtain⟨Pe,qe,dx⟩:=pg_ ch;have cq:=q_ dx;clear a3 af au a4 ef ch dx;obtain⟨ab,bb⟩:=a_ E.heap.size;obtain⟨wa,f⟩:=a_ (E.alloc (.cells #[.int .i64 0,.int .i64 0,.int .i64 0,.string ⟨#[]⟩,.slice none 0 0] 74));have I:=q_ (show Below E.heap.size E wa from by rw[<-f.o];exact (Below.refl _ _).alloc (Nat.le_refl _) _);have D:=q_ (show wa.heap[ab]?=some (.cells #[.int .i64 0,.int .i64 0,.int .i64 0,.string ⟨#[]⟩,.slice none 0 0] 74 (0,0)) from by rw[<-f.o,<-bb.o];exact heap_alloc_new E _)
      go_upto_region 18 with (first
       | ((with_reducible refine e_ (some 51) ?_);refine M_ (by rfl) 74 _ rfl rfl ce _ LE.o Tryz.underlying74 rfl IE.o ?_)
       | ((with_reducible refine z_ 14 ?_);rw[f.o,bb.o];refine r_ rfl 74 _ _ rfl ab (#[.int .i64 0,.int .i64 0,.int .i64 0,.string ⟨#[]⟩,.slice none 0 0]) ce 74 rfl rfl D.o SE.o IE.o OE.o ?_;intro M av ao))
      have a9:=q_ av;have a5:=q_ (show Below E.heap.size E M from j_ I.o ao (λb e=>by have e:b=ab:=e;have h2:E.heap.size=ab:=bb.o;omega));have e8:=q_ (show StM M m l from d2.o.on (ag.o.trans (a5.o.mono ag.o.size)));obtain⟨src,ba⟩:=a_ J.src;obtain⟨dst,b8⟩:=a_ J.dst;obtain⟨ty,e9⟩:=a_ J.type;have b1:M.cell? ⟨ab,1,none⟩=some (.int .i64 src):=(cell_of_heap a9.o 1).trans (by rw[cq.o,<-ba.o];rfl);have b2:M.cell? ⟨ab,2,none⟩=some (.int .i64 dst):=(cell_of_heap a9.o 2).trans (by rw[cq.o,<-b8.o];rfl);have b3:M.cell? ⟨ab,3,none⟩=some (.string ty):=(cell_of_heap a9.o 3).trans (by rw[cq.o,<-e9.o];rfl);have dz:=q_ (rs_ e8.o (show VI src from by rw[<-ba.o];exact ca.o.2.2.1));have dt:=q_ (rs_ e8.o (show VI dst from by rw[<-b8.o];exact ca.o.2.2.2));clear av ao f D LE;obtain⟨B1,q1,e1⟩:=rz_ am.o J.src;obtain⟨B2,q2,e2⟩:=rz_ am.o J.dst;obtain⟨u0,dn⟩:=H_ (b8_ x J.src) (.slice B1 0 q1);obtain⟨u1,dp⟩:=H_ (m5_ J.type) (.slice none 0 0);obtain⟨u2,cy⟩:=H_ (b8_ x J.dst) (.slice B2 0 q2);obtain⟨ct,cm⟩:=ah_ (d6_ x J) (ssE B1 q1 B2 q2);have g7:=q_ (λW:World=>(show (Instr.build 41 #[(0,.agg u0),(1,.agg u1),(2,.agg u2)]).run Tryz.prog W = .ok (.agg ct) W from by rw[<-dn.o,<-dp.o,<-cy.o,<-cm.o];exact Hc_ x J B1 q1 B2 q2 W));have fq:=q_ (λW:World=>(show (Instr.build 39 #[(0,.int .i64 8),(3,.string ty)]).run Tryz.prog W = .ok (.agg u1) W from by rw[<-dp.o,<-e9.o];exact Lk_ J.type W));have f2:=q_ (show (Instr.lookup 134 (.map (some m)) (.int .i64 src) false).run Tryz.prog M = .ok (.agg u0) M from by rw[dz.o,<-ba.o,e1,dn.o]);have fe:=q_ (show (Instr.lookup 134 (.map (some m)) (.int .i64 dst) false).run Tryz.prog M = .ok (.agg u2) M from by rw[dt.o,<-b8.o,e2,cy.o]);have ff:=q_ (show eg_ ct (d6_ x J) from ⟨(wh_ b5.o (show J.type.size<=2000000 from ca.o.1.1)).2,_,λi _=>Hb_ B1 q1 B2 q2 i,cm.o.symm⟩);have fl:=q_ cm.size;have d0:=q_ (G.o.on a5.o);have c4:=q_ (d0.o.on ((Below.refl _ _).alloc (Nat.le_refl _) (.cells ct 41)));have dv:=q_ (Fh_ fl_ ff.o M 41);have eq:=q_ (show ((C.take j).map (d6_ x)).length<=2000000 from by rw[List.length_map,List.length_take];have:=aj.o;have:=co.o;omega);clear e1 e2 dz dt
      go_upto_region 19 with (first
       | ((with_reducible refine e_ (some 56) ?_);refine Gz_ rfl 134 _ _ rfl (.map (some m)) (.int .i64 src) rfl rfl _ f2.o ?_)
       | ((with_reducible refine e_ (some 59) ?_);refine O_ rfl 39 _ rfl #[(0,.int .i64 8),(3,.string ty)] (by kernel_rfl) (.agg u1) (fq.o _) ?_)
       | ((with_reducible refine e_ (some 63) ?_);refine Gz_ rfl 134 _ _ rfl (.map (some m)) (.int .i64 dst) rfl rfl _ fe.o ?_)
       | ((with_reducible refine e_ (some 64) ?_);refine O_ rfl 41 _ rfl #[(0,.agg u0),(1,.agg u1),(2,.agg u2)] (by kernel_rfl) (.agg ct) (g7.o _) ?_)
       | ((with_reducible refine e_ (some 65) ?_);refine gk_ rfl 22 1 _ rfl #[(0,.agg ct)] (by kernel_rfl) (.slice (some ⟨M.heap.size,0,none⟩) 1 1) _ (ng_ ct fl.o M) ?_)
       | ((with_reducible refine e_ (some 66) ?_);refine kd_ fl_ rfl (.tmp 52) (.tmp 65) 22 rfl i0 _ Tryz.underlying22 fb.o fn.o fg.o fu.o rfl (by decide) rfl c4.o.own rfl rfl dv.o (λh=>by cases h) (by have:=eq.o;omega) (by decide) ?_;intro v1 y1 dy d1 dd))
      have f6:=q_ (c4.o.app dy d1 dd);clear dy d1 dd c4 d0 dv;go_wp2_with fail;go_roundw
      case rel=>exact⟨j+1,_,by have:=co.o;omega,by go_num,rfl,q_ (by rw[g_ f8.o,List.map_append];exact f6.o)⟩
      case measure=>have:=co.o;simp[intOf];omega
     ·have a2:¬(j:Int)<O:=by omega
      have f0:=q_ (show C.take j=C from List.take_of_length_le (by have h2:C.length=O:=ac.o;omega));rw[f0.o]at G;clear a3;obtain⟨T,X⟩:=a_ (C.map (d6_ x));rw[X.o]at G;have dl:=q_ (show T.length=O from by rw[<-X.o,List.length_map];exact ac.o);obtain⟨A5,c5,rfl,g4,ep⟩:∃A c,S = .slice A O c/\O<=c/\(A=none->c=0):=by obtain⟨A,c,e,h1,h2⟩:=G.o.own.form;rw[dl.o]at e h1;exact⟨A,c,e,h1,h2⟩
      have c8:=q_ (show ∀t,t∈T->OkT t from λt ht=>by
       rw[<-X.o]at ht;obtain⟨J,af,rfl⟩:=List.mem_map.1 ht;exact (wh_ b5.o ((gt_ Z.o R.o).2.2.2 J af).1.1).1)
      have en:=q_ ((G.o.own.rd fl_ (F:=λb=>b<E.heap.size) (λb hb=>G.o.own.lt hb) dl.o).imp (R':=TrR) (λ_ h=>h) (λt c h=>eg_.trR h E _));have ae:=q_ (show Below w.heap.size w E from a7.o.trans (ag.o.mono a7.o.size));have ci:=q_ (lu_ T c8.o (λb=>b<E.heap.size) A5 O c5 E (λ_ h=>h) en.o (by have:=aj.o;omega) (f_ HG.o ae.o) (n_ ex.o ae.o));have bx:=q_ ((ag.o.block z6 (b_ b9.o)).trans b9.o);have ey:=q_ (show ∀wz:World,Below E.heap.size E wz->B_ 41 18 TrR wz (λb=>w.heap.size<=b/\b<wz.heap.size) T (.slice A5 O c5) from λwz hz=>b9_.sownT (G.o.own.on hz) (λg hg=>⟨Nat.le_trans a7.o.size (G.o.ow g hg),Nat.lt_of_lt_of_le (G.o.own.lt hg) hz.size⟩))
      have fd:=q_ (show bx_ ⟨x,C⟩=none\/(T.length<=65536/\T.all dj_=true) from by
       by_cases h:T.length<=65536/\T.all dj_=true
       ·exact .inr h
       ·refine .inl ?_;unfold bx_;rw[if_neg];rintro⟨_,h1,h2,_⟩;rw[X.o]at h1 h2;exact h ⟨h1,h2⟩)
      have em:=q_ (show ∀n,n∈x->(bw_ n).2=true from λn hn=>(b5.o n hn).1);unfold kg_ at ci;clear hj g4 ep;go_wp2_with fail;clear a2;refine ci.o.mono ?_;rintro e U (⟨aa,rfl,hb⟩ | ⟨h1,h2,GN,GE,rfl,a6,hb⟩)
      ·have ah:=q_ (show bx_ ⟨x,C⟩=none from fd.o.elim id (λh=>absurd h aa));have ay:=q_ (ae.o.trans (hb.mono ae.o.size));clear aa hb;obtain⟨a0,V⟩:=a_ U.heap.size;obtain⟨wa,f⟩:=a_ (U.alloc (.cells #[.slice none 0 0,.slice none 0 0] 54));have I:=q_ (show Below U.heap.size U wa from by rw[<-f.o];exact (Below.refl _ _).alloc (Nat.le_refl _) _);have D:=q_ (show wa.heap[a0]?=some (.cells #[.slice none 0 0,.slice none 0 0] 54 (0,0)) from by rw[<-f.o,<-V.o];exact heap_alloc_new U _);go_upto_region 21 with ((with_reducible refine z_ 15 ?_);rw[f.o,V.o];refine r_ rfl 54 _ _ rfl a0 (#[.slice none 0 0,.slice none 0 0]) (#[.slice none 0 0,.slice none 0 0]) 54 rfl rfl D.o rfl (U_ _ _) (c7_ _ _ _ _ _ _) ?_;intro wh bq ap)
       have bm:=q_ (show Below w.heap.size w wh from ay.o.trans ((show Below U.heap.size U wh from j_ I.o ap (λb e=>by have e:b=a0:=e;have h2:U.heap.size=a0:=V.o;omega)).mono ay.o.size));clear bq ap f D I;go_wp2_with fail;go_ret2;exact⟨bm.o,.inr ⟨HM.o,_,R.o,.inl ⟨ah.o,rfl⟩⟩⟩
      ·have bk:=q_ (And.intro h1 h2);have ej:=q_ a6;obtain⟨N',E',e,⟨dw,ee,eN,_,_⟩,⟨dq,e5,eE,_,_⟩⟩:=a6;obtain⟨nN,fm⟩:=a_ (af_ (ba_ (w_ (ak_ 0)) T)).nodes.length;obtain⟨nE,g2⟩:=a_ (af_ (ba_ (w_ (ak_ 0)) T)).edges.length;rw[fm.o]at eN;rw[g2.o]at eE;subst eN;subst eE;injection e with e;have e3:=congrArg (λa:Array Value=>a[0]?) e;have e4:=congrArg (λa:Array Value=>a[1]?) e;simp at e3 e4;subst e3;subst e4;have ai:=q_ hb;have ay:=q_ (ae.o.trans (hb.mono ae.o.size));have cl:=q_ ((hb.block z6 (b_ bx.o)).trans bx.o);clear hb h1 h2 e;obtain⟨a0,V⟩:=a_ U.heap.size;obtain⟨wa,f⟩:=a_ (U.alloc (.cells #[.slice none 0 0,.slice none 0 0] 54));have I:=q_ (show Below U.heap.size U wa from by rw[<-f.o];exact (Below.refl _ _).alloc (Nat.le_refl _) _);have D:=q_ (show wa.heap[a0]?=some (.cells #[.slice none 0 0,.slice none 0 0] 54 (0,0)) from by rw[<-f.o,<-V.o];exact heap_alloc_new U _);go_upto_region 21 with ((with_reducible refine z_ 15 ?_);rw[f.o,V.o];refine r_ rfl 54 _ _ rfl a0 (#[.slice none 0 0,.slice none 0 0]) (#[.slice dw nN ee,.slice dq nE e5]) 54 rfl rfl D.o rfl (U_ _ _) (c7_ _ _ _ _ _ _) ?_;intro wh bq ap)
       have Y:=q_ (show Below U.heap.size U wh from j_ I.o ap (λb e=>by have e:b=a0:=e;have h2:U.heap.size=a0:=V.o;omega));have bm:=q_ (ay.o.trans (Y.o.mono ay.o.size));have f7:=q_ bq;have ev:=q_ ((Y.o.block z6 (b_ cl.o)).trans cl.o);have c3:=q_ (show Below s.heap.size s y from j_ N.o g0.o (λb h=>by have h1:=ak.o;have h2:=N.o.size;rcases h with h | h<;>omega))
       have c7:=q_ (show Below s.heap.size s wh from c3.o.trans ((ag.o.trans ((ai.o.trans (Y.o.mono ai.o.size)).mono ag.o.size)).mono c3.o.size));have bo:=q_ (Ha_ bk.o.1 bk.o.2 c8.o);have bs:=q_ (x5_ (af_ (ba_ (w_ (ak_ 0)) T)) ⟨x,C⟩ _ _ _ _ wh (λb h=>Nat.lt_of_lt_of_le h.2 Y.o.size) (λb h=>Nat.lt_of_lt_of_le h.2 c7.o.size) (ej.o.under Y.o (λb h=>h.2)) (eb.o.under c7.o (λb h=>h.2)) (r5_ bo.o).1 (r5_ bo.o).2);unfold u_ at bs;have b7:=q_ (show lx_ (af_ (ba_ (w_ (ak_ 0)) T)) ⟨x,C⟩=true↔af_ (ba_ (w_ (ak_ 0)) T)=⟨x,C⟩ from x4_ wm_)
       have cw:=q_ (show af_ (ba_ (w_ (ak_ 0)) T)=⟨x,C⟩->bx_ ⟨x,C⟩=some T from λh=>by
        unfold bx_;rw[if_pos ⟨em.o,by rw[X.o];exact bk.o.1,by rw[X.o];exact bk.o.2,by rw[X.o];exact h⟩,X.o])
       have er:=q_ (show af_ (ba_ (w_ (ak_ 0)) T)≠⟨x,C⟩->bx_ ⟨x,C⟩=none from λh=>by
        unfold bx_;rw[if_neg];rintro⟨_,_,_,h1⟩;rw[X.o]at h1;exact h h1)
       have ek:=q_ (Fu_ f7.o);have g5:=q_ (Fu_ ev.o);obtain⟨q,Hq⟩:=a_ (lx_ (af_ (ba_ (w_ (ak_ 0)) T)) ⟨x,C⟩);rw[Hq.o]at bs b7;clear bq ap f D I
       go_wp2_with (first
        | ((with_reducible refine e_ (some 76) ?_);refine M_ (by rfl) 54 _ rfl rfl (#[.slice dw nN ee,.slice dq nE e5]) _ ek.o Tryz.underlying54 rfl (U_ _ _) ?_)
        | ((with_reducible refine e_ (some 77) ?_);refine M_ (by rfl) 54 _ rfl rfl (#[.slice A m1 c,.slice B O d]) _ g5.o Tryz.underlying54 rfl (U_ _ _) ?_))
       refine bs.o.mono ?_;rintro e wi ⟨rfl,hb⟩;have dc:=q_ (bm.o.trans (hb.mono bm.o.size));have eg:=q_ (ai.o.trans ((Y.o.trans (hb.mono Y.o.size)).mono ai.o.size));clear hb
       cases q with
       | true=>
        have f9:=q_ (cw.o (b7.o.1 rfl));go_wp2_with fail;go_ret2;exact⟨dc.o,.inr ⟨HM.o,_,R.o,.inr ⟨T,_,f9.o,rfl,ey.o wi eg.o⟩⟩⟩
       | false=>
        have f3:=q_ (er.o (λh=>by have h2:=b7.o.2 h;cases h2));go_wp2_with fail;go_ret2;exact⟨dc.o,.inr ⟨HM.o,_,R.o,.inl ⟨f3.o,rfl⟩⟩⟩
end
section
open Go Go.RowKit Go.Maps Go.WideMaps
def zs_ (G:y_) (id:Int) (w:World) (e:Ending) (w':World):Prop:=
 ∃(x y:i_) (A:Option Addr) (n c:Nat) (B:Option Addr) (m d:Nat),x∈G.nodes/\x.id=id/\ij_ x y/\e = .returned (.tuple #[.agg #[.int .i64 id,.slice A n c,.slice B m d],.bool true]) /\
  NoR w' (λb=>w.heap.size<=b/\b<w'.heap.size) y #[.int .i64 id,.slice A n c,.slice B m d]/\Below w.heap.size w w'
theorem Hd_ (G:y_) (lo p:Nat) (Ns Es:Value) (mh mt ma V n0:Nat) (id:Int) (w:World) (Y:cj_ w lo p G Ns Es mh mt ma V n0) (U:VI id) (n:id∈G.nodes.map i_.id)
    (C:∀x,x∈G.nodes->qi_ x/\zi_ x) :
    Calls Tryz.prog 105 #[.pointer (some ⟨p,0,none⟩),.int .i64 id] w (zs_ G id w):=by
 have u:=q_ Y;have a0:=q_ C;obtain⟨z,A⟩:=a_ w.heap.size;obtain⟨w2,t⟩:=a_ (w.alloc (.cells #[.int .i64 0,.slice none 0 0,.slice none 0 0] 72));have a:=q_ (show Below w.heap.size w w2 from by rw[<-t.o];exact (Below.refl _ _).alloc (Nat.le_refl _) _);have k:=q_ (show cj_ w2 lo p G Ns Es mh mt ma V n0 from u.o.turn (Turn.of_below a.o) (λb _ h1 h2=>by omega));have HK:=q_ (show w2.heap[z]?=some (.cells #[.int .i64 0,.slice none 0 0,.slice none 0 0] 72 (0,0)) from by rw[<-t.o,<-A.o];exact heap_alloc_new w _);obtain⟨AN,cN,N,_,E⟩:=k.o.nodes;obtain⟨nN,Z⟩:=a_ G.nodes.length;rw[Z.o]at N E;subst N;obtain⟨q7,O,S⟩:=k.o.at_.look U;rw[dx_ n]at O;obtain⟨i,rfl,m⟩:=S n;rw[List.getElem?_map]at m
 obtain⟨x,d,J⟩:∃x,G.nodes[i]?=some x/\x.id=id:=by
  cases d:G.nodes[i]? with
  | none=>rw[d]at m;cases m
  | some x=>rw[d]at m;exact⟨x,rfl,by injection m⟩
 have h:=q_ (And.intro (List.mem_of_getElem? d) J);have a7:i<nN:=by rw[<-Z.o];exact by_ d
 have B:=E.mono NoR.good (F':=λb=>b<z) (λb hb=>by have:=u.o.loc;have:=A.o;omega);obtain⟨ad,c,rfl,a5,M,hc,W⟩:=B.at_ d;have I:=a0.o x h.o.1;have R:=q_ (pk_ x I.1 I.2 (λb=>b<z) c w2 (λb hb=>by have:=a.o.size;have:=A.o;omega) W);have a2:=q_ (λj (hj:j<c.size)=>(show w2.cell? ((ad.add (i*3)).add j)=c[j]? from by rw[add_of_add];exact hc j (by rw[M]at hj;exact hj)));have I3:=q_ (show (Tryz.prog.info? 72).map (·.size)=some c.size from pe_.trans (congrArg some M.symm));have x4:w2.cell? ⟨p,4,none⟩=some (.map (some ma)):=cell_of_heap k.o.blk 4;have x0:w2.cell? ⟨p,0,none⟩=some (.slice (some ad) nN cN):=cell_of_heap k.o.blk 0;have e1:(0:Int)<=i:=by omega
 have e2:(i:Int)<nN:=by omega
 unfold Gf_ at R;clear Y U n C E B m d a5 I J S a7 M hc W;go_enter Tryz.func105,Tryz.ntmps105
 go_upto_region 1 with fail;rw[t.o,A.o];go_wp2_with ((with_reducible refine e_ (some 26) ?_);refine M_ (by rfl) 72 _ rfl rfl c _ a2.o Tryz.underlying72 rfl I3.o ?_)
 refine R.o.mono ?_;rintro e w6 ⟨c6,y,rfl,l,f,s⟩;have X:=q_ s;have aa:=q_ f;obtain⟨L,P,rfl,⟨A1,c1,rfl,-,-⟩,⟨A2,c2,rfl,-,-⟩⟩:=s;obtain⟨l1,a6⟩:=a_ y.labels.length;obtain⟨l2,a3⟩:=a_ y.props.length;have D:y.id=id:=f.1.trans h.o.2;rw[a6.o,a3.o,D]at X ⊢;have a9:=q_ ((l.block z (b_ HK.o)).trans HK.o);have ab:=q_ l;have a4:=q_ (a.o.trans (l.mono a.o.size));clear l f x0 x4 O D;go_wp2_with ((with_reducible refine z_ 4 ?_);refine r_ rfl 72 _ _ rfl z (#[.int .i64 0,.slice none 0 0,.slice none 0 0]) (#[.int .i64 id,.slice A1 l1 c1,.slice A2 l2 c2]) 72 rfl rfl a9.o rfl (ae_ _ _ _) (e4_ _ _ _ _ _ _ _) ?_;intro w7 a1 F)
 have a8:=q_ (show Below w.heap.size w w7 from j_ a4.o F (λb e=>by have e:b=z:=e;have:=A.o;omega));refine bodyPost_ret (v:=.tuple #[.agg #[.int .i64 id,.slice A1 l1 c1,.slice A2 l2 c2],.bool true]) (b1_ Tryz.results105 (g:=z) rfl a1 _ Tryz.underlying72 rfl (ae_ _ _ _) rfl) rfl ⟨x,y,A1,l1,c1,A2,l2,c2,h.o.1,h.o.2,aa.o,rfl,?_,a8.o⟩;refine NoR.good.mono (NoR.good.keep X.o (λq hq=>F.cell hq.2 (λe=>?_))) (λb hb=>⟨Nat.le_trans a.o.size hb.1,Nat.lt_of_lt_of_le hb.2 F.size⟩);have e:q.block=z:=e;have h1:=hq.1;have h2:=b_ HK.o;omega
end
section
open Go Go.RowKit Go.Maps
def wkO:h_:=.mk 2 false 5 ⟨#[]⟩ ⟨#[]⟩ []
def wkM:d_:=⟨m5_ ⟨#[97]⟩,m5_ ⟨#[112]⟩,wkO⟩
theorem ts_:∀t,t∈[wkM]->OkT t:=λt ht=>by
 rw[List.mem_singleton.1 ht];exact⟨⟨by decide,by decide,by decide⟩,⟨by decide,by decide,by decide⟩,⟨by decide,by decide,by decide⟩⟩
theorem tt_:[wkM].all dj_=true:=by decide
theorem wn_:bn_ wkM:=c5_ (List.all_eq_true.1 tt_ wkM (List.mem_singleton.2 rfl)) (ts_ wkM (List.mem_singleton.2 rfl))
theorem wo_:ba_ (w_ (ak_ 0)) [wkM]=[wkM]:=by have h:=d1_ (a7_ (ak_ 0)) (l:=[wkM]) (λa c b hb _=>by rw[List.mem_singleton.1 c,List.mem_singleton.1 hb]);exact f0_ (a7_ _) h.1 (List.pairwise_singleton _ _) h.2
theorem fc_:ai_ [wkM]:=by have h:=Ha_ (L:=[wkM]) (by decide) tt_ ts_;rwa [wo_]at h
theorem He_:(R_ [wkM]).length=2:=by
 have h1:(R_ [wkM]).length<=2:=ls_ G_ (dl_ [wkM]);have b:=fc_.mem wkM (List.mem_singleton.2 rfl)
 have c:wkM.s≠wkM.o:=by
  intro e;have:=congrArg h_.kind e;revert this
  decide
 have h2:2<=(R_ [wkM]).length:=by
  match hv:R_ [wkM],b with
  | [],b=>exact absurd b.1 (by simp)
  | [a],b=>exact absurd ((List.mem_singleton.1 b.1).trans (List.mem_singleton.1 b.2).symm) c
  | _::_::_,_=>simp
 omega
theorem Cw_:(af_ [wkM]).nodes.length=2:=by show ((R_ [wkM]).mapIdx (λi v=>E_ ((i:Nat):Int) v)).length=2;rw[List.length_mapIdx,He_]
theorem Cx_:∃a b,(af_ [wkM]).edges=[⟨0,a,b,⟨#[112]⟩,[]⟩]:=⟨_,_,rfl⟩
theorem Ll_ (W:World):(Instr.build 39 #[(0,.int .i64 2),(2,.int .i64 5)]).run Tryz.prog W = .ok (.agg (c_ wkO (.slice none 0 0))) W:=by kernel_rfl
theorem Lm_ (W:World):(Instr.build 41 #[(0,.agg (c_ (irV ⟨#[97]⟩) (.slice none 0 0))),(1,.agg (c_ (irV ⟨#[112]⟩) (.slice none 0 0))),(2,.agg (c_ wkO (.slice none 0 0)))]).run Tryz.prog W = .ok (.agg (s_ wkM s1_)) W:=Fr_ wkM W
theorem yq_ (w:World) (aa:F_ w) (ab:as_ w):Calls Tryz.prog 24 #[] w (u_ true w):=by
 have Y:=q_ (And.intro aa ab);clear aa ab;obtain⟨ua,Ha⟩:=H_ (irV ⟨#[97]⟩) (.slice none 0 0);obtain⟨up,Hp⟩:=H_ (irV ⟨#[112]⟩) (.slice none 0 0);obtain⟨X,Ho⟩:=H_ wkO (.slice none 0 0);obtain⟨l,A⟩:=ah_ wkM s1_;have aj:=q_ (λW:World=>(show (Instr.build 41 #[(0,.agg ua),(1,.agg up),(2,.agg X)]).run Tryz.prog W = .ok (.agg l) W from by rw[<-Ha.o,<-Hp.o,<-Ho.o,<-A.o];exact Lm_ W));have am:=q_ (λW:World=>(show (Instr.build 39 #[(0,.int .i64 2),(2,.int .i64 5)]).run Tryz.prog W = .ok (.agg X) W from by rw[<-Ho.o];exact Ll_ W));have ZR:=q_ A.size;have au:=q_ (show eg_ l wkM from ⟨s7_ wn_ (λn=>((ts_ wkM (List.mem_singleton.2 rfl)).get n).fit),s1_,λi _=>⟨none,0,rfl⟩,A.o.symm⟩);clear A;go_enter Tryz.func24,Tryz.ntmps24
 go_wp2_with fail;refine (u7_ _ _).mono ?_;unfold sy_;rintro e w1 ⟨rfl,hb⟩;have ag:=q_ hb;clear hb;rw[Ha.o];go_wp2_with fail;refine (u7_ _ _).mono ?_;unfold sy_;rintro e w2 ⟨rfl,hb⟩;have O:=q_ (ag.o.trans (hb.mono ag.o.size));clear hb;rw[Hp.o];obtain⟨d,m⟩:=a_ w2.heap.size;obtain⟨k,u⟩:=a_ (w2.alloc (.cells l 41));have z:=q_ (show Below w.heap.size w k from by rw[<-u.o];exact O.o.alloc O.o.size _);have ar:=q_ (show (Instr.buildSlice 22 1 #[(0,.agg l)]).run Tryz.prog w2 = .ok (.slice (some ⟨d,0,none⟩) 1 1) k from by rw[<-m.o,<-u.o];exact ng_ l ZR.o w2)
 have I:=q_ (show d<k.heap.size/\w.heap.size<=d from ⟨by
  have h:k.heap[d]?=some (.cells l 41 (0,0)):=by rw[<-u.o,<-m.o];exact heap_alloc_new w2 _
  exact b_ h,by rw[<-m.o];exact O.o.size⟩)
 have a4:=q_ (show SRd 18 TrR k (λb=>b=d) [wkM] (some ⟨d,0,none⟩) 1 from by have h:=(Fh_ fl_ au.o w2 41).imp (R':=TrR) (λ_ h=>h) (λt c h=>eg_.trR h _ _);rw[<-u.o,<-m.o];exact h);clear u m
 go_wp2_with (first
  | ((with_reducible refine e_ (some 8) ?_);refine O_ rfl 39 _ rfl #[(0,.int .i64 2),(2,.int .i64 5)] (by kernel_rfl) (.agg X) (am.o _) ?_)
  | ((with_reducible refine e_ (some 9) ?_);refine O_ rfl 41 _ rfl #[(0,.agg ua),(1,.agg up),(2,.agg X)] (by kernel_rfl) (.agg l) (aj.o _) ?_)
  | ((with_reducible refine e_ (some 10) ?_);refine xr_ rfl 22 1 _ rfl #[(0,.agg l)] (by kernel_rfl) (.slice (some ⟨d,0,none⟩) 1 1) k ar.o ?_))
 refine (lu_ [wkM] ts_ (λb=>b=d) (some ⟨d,0,none⟩) 1 1 k (λg hg=>by have hg:g=d:=hg;rw[hg];exact I.o.1) a4.o (by omega) (f_ Y.o.1 z.o) (n_ Y.o.2 z.o)).mono ?_;unfold kg_;rintro e j (⟨ap,_⟩ | ⟨_,_,GN,GE,rfl,F,hb⟩)
 ·exact absurd ⟨by decide,tt_⟩ ap
 rw[wo_]at F;have ac:=q_ F;obtain⟨N',E',e,⟨AN,cN,eN,_,_⟩,⟨AE,cE,eE,_,hE⟩⟩:=F;rw[Cw_]at eN;subst eN;subst eE;injection e with e;have e3:=congrArg (λa:Array Value=>a[0]?) e;have e4:=congrArg (λa:Array Value=>a[1]?) e;simp at e3 e4;subst e3;subst e4;have a3:=q_ hb;have a5:=q_ (z.o.trans (hb.mono z.o.size));clear hb e;obtain⟨v,S⟩:=a_ j.heap.size;obtain⟨wa,B⟩:=a_ (j.alloc (.cells #[.slice none 0 0,.slice none 0 0] 54));have ae:=q_ (show Below j.heap.size j wa from by rw[<-B.o];exact (Below.refl _ _).alloc (Nat.le_refl _) _);have a9:=q_ (show wa.heap[v]?=some (.cells #[.slice none 0 0,.slice none 0 0] 54 (0,0)) from by rw[<-B.o,<-S.o];exact heap_alloc_new j _);obtain⟨a,b,M⟩:=Cx_;obtain⟨nE,C⟩:=a_ (af_ [wkM]).edges.length;have R:=q_ (show nE=1 from by rw[<-C.o,M];rfl);have av:=hE.at_ (i:=0) (x:=⟨0,a,b,⟨#[112]⟩,[]⟩) (by rw[M];rfl);rw[C.o,R.o]at ac;rw[C.o,R.o];obtain⟨ad,ce,rfl,a0,ay,ai,a6⟩:=av;have aq:=q_ a0;have aw:=q_ (show j.cell? (ad.add (0*5+3))=some (.string ⟨#[112]⟩) from by rw[ai 3 (by omega)];obtain⟨_,e,_⟩:=a6;rw[e];rfl);clear hE M a0 ay ai a6 C R;go_upto_region 3 with ((with_reducible refine z_ 2 ?_);rw[B.o,S.o];refine r_ rfl 54 _ _ rfl v (#[.slice none 0 0,.slice none 0 0]) (#[.slice AN 2 cN,.slice (some ad) 1 cE]) 54 rfl rfl a9.o rfl (U_ _ _) (c7_ _ _ _ _ _ _) ?_;intro V ah af)
 have f:=q_ (show Below j.heap.size j V from j_ ae.o af (λb e=>by have e:b=v:=e;have h2:j.heap.size=v:=S.o;omega));have D:=q_ (a5.o.trans (f.o.mono a5.o.size));have J:=q_ ah;clear ah af B a9 ae;go_wp2_with ((with_reducible refine e_ (some 17) ?_);refine A_ rfl 54 _ rfl v 0 rfl (#[.slice AN 2 cN,.slice (some ad) 1 cE]) _ (p_ J.o) Tryz.underlying54 rfl (U_ _ _) ?_)
 refine (tr_ (af_ [wkM]) fc_.fit (λb=>k.heap.size<=b/\b<j.heap.size) _ V (λb h=>Nat.lt_of_lt_of_le h.2 f.o.size) (ac.o.under f.o (λb h=>h.2)) fc_.num (f_ Y.o.1 D.o) (n_ Y.o.2 D.o)).mono ?_;unfold r0_;rintro e y ⟨hb,E⟩
 obtain⟨s,rfl,N⟩:∃s,e = .returned (.tuple #[s,.int .i64 0])/\B_ 41 18 TrR y (λb=>V.heap.size<=b/\b<y.heap.size) [wkM] s:=by
  rcases E with⟨h,_⟩ | ⟨_,G,hp,E⟩
  ·rw[fc_.graph]at h
   cases h
  ·have he:=fc_.plain hp;subst he;rcases E with⟨h,_⟩ | ⟨T,s,U,e,ho⟩
   ·rw[fc_.back]at h
    cases h
   ·rw[fc_.back]at U;injection U with U;subst U;exact⟨s,e,ho⟩
 obtain⟨As,cs,es,_,a8⟩:=N.rd TrR.good;have es:s = .slice As 1 cs:=es;subst es;have a1:=q_ (D.o.trans (hb.mono D.o.size));have P:=q_ (f.o.trans (hb.mono f.o.size));have ao:=q_ (show SRd 18 TrR y (λb=>V.heap.size<=b/\b<y.heap.size) [wkM] As 1 from a8);have Z:=q_ ((hb.block v (b_ J.o)).trans J.o);have x0:y.cell? ⟨v,0,none⟩=some (.slice AN 2 cN):=cell_of_heap Z.o 0;have x1:y.cell? ⟨v,1,none⟩=some (.slice (some ad) 1 cE):=cell_of_heap Z.o 1;have x3:y.cell? ⟨ad.block,ad.off+3,none⟩=some (.string ⟨#[112]⟩):=by have h:=(P.o.cell (p:=ad.add (0*5+3)) (by rw[a3_];exact aq.o.2)).trans aw.o;exact h
 have a7:=q_ (show Below k.heap.size k y from a3.o.trans (P.o.mono a3.o.size));have L:=vp_ (ca:=cs) (cb:=1) ao.o (a4.o.under TrR.good a7.o (λb h=>by have h:b=d:=h;rw[h];exact I.o.1)) (λb h=>h.2) (λb h=>by have h:b=d:=h;rw[h];exact Nat.lt_of_lt_of_le I.o.1 a7.o.size) (by omega) (λt ht i=>by rw[List.mem_singleton.1 ht,cm_ (wn_.get i)];decide);rw[gp_.2 rfl]at L;have a2:=q_ L;unfold u_ at a2;clear L hb E N a8;go_wp2_with fail;refine a2.o.mono ?_;rintro e w8 ⟨rfl,hb⟩;have ak:=q_ (a1.o.trans (hb.mono a1.o.size));clear hb;go_wp2_with fail;go_ret;exact⟨rfl,ak.o⟩
def zt_ (i:Nat):Array Value:=#[.int .i64 6,.bool false,.int .i64 (i:Nat),.string ⟨#[]⟩,.string ⟨#[]⟩,.slice none 0 0]
structure EqK (c:Array Value) (i:Nat):Prop where
 o :zt_ i=c
theorem Kg_ (i:Nat):∃c,EqK c i:=⟨_,⟨rfl⟩⟩
def yr_ (v:h_) (w:World) (e:Ending) (w':World):Prop:=∃A a,e = .returned (.tuple #[.agg (c_ v (.slice A 0 a)),.bool true])/\Below w.heap.size w w'
theorem Ln_ {T:List d_} {i:Nat} {v:h_} (a:(R_ T)[i]?=some v) {x:i_} (d:x∈(af_ T).nodes) (b:x.id=((i:Nat):Int)):x=E_ ((i:Nat):Int) v:=by
 obtain⟨j,c,e⟩:=List.mem_mapIdx.1 d;rw[<-e,bd_]at b;have h:j=i:=by omega
 subst h;rw[List.getElem?_eq_getElem c]at a;injection a with a;rw[<-e,a]
theorem Lo_ {T:List d_} {i:Nat} {v:h_} (a:(R_ T)[i]?=some v):((i:Nat):Int)∈(af_ T).nodes.map i_.id:=by obtain⟨h,e⟩:=List.getElem?_eq_some_iff.1 a;exact List.mem_map.2 ⟨E_ ((i:Nat):Int) v,List.mem_mapIdx.2 ⟨i,h,by rw[e]⟩,bd_ _ _⟩
theorem Cy_ (i:Nat) (W:World) (z:Nat) (c:Array Value) (a:EqK c i) (h:W.heap[z]?=some (.cells c 39 (0,0))):W.cell? ⟨z,0,none⟩=some (.int .i64 6)/\W.cell? ⟨z,2,none⟩=some (.int .i64 (i:Nat)):=by rw[cell_of_heap h 0,cell_of_heap h 2,<-a.o];exact⟨rfl,rfl⟩
theorem Cz_ {T:List d_} (hk:ai_ T) (i:Nat) {v:h_} (hv:(R_ T)[i]?=some v) (F:Nat->Prop) (u:Value) (w:World) (hF:∀b,F b->b<w.heap.size) (hg:GrR w F (af_ T) u) (R:F_ w) :
    Calls Tryz.prog 35 #[u,.agg (zt_ i)] w (yr_ v w):=by
 have P:=q_ (λ(W:World) (hb:Below w.heap.size w W)=>hx_ (af_ T) hk.fit F u W (λb k=>Nat.lt_of_lt_of_le (hF b k) hb.size) (hg.under hb hF) (f_ R hb));unfold ic_ at P;have HG:=q_ R;have a:=q_ hk;have HV:=q_ hv;have ap:=q_ (show i<=131072 from by have h:=(List.getElem?_eq_some_iff.1 hv).1;have:=hk.vlen;omega);obtain⟨NV,EV,rfl,⟨AN,cN,rfl,-,-⟩,AE,cE,rfl,-,-⟩:=hg;obtain⟨n1,au⟩:=a_ (af_ T).nodes.length;obtain⟨n2,b6⟩:=a_ (af_ T).edges.length;rw[au.o,b6.o]at P ⊢;obtain⟨kn,af⟩:=Kg_ i;rw[af.o];obtain⟨z,Hz⟩:=a_ w.heap.size;obtain⟨t,j⟩:=a_ (((w.alloc (.cells #[.slice AN n1 cN,.slice AE n2 cE] 54)).alloc (.cells kn 39)).alloc (.cells #[.int .i64 0,.bool false,.int .i64 0,.string ⟨#[]⟩,.string ⟨#[]⟩,.slice none 0 0] 39));have X:=q_ (show Below w.heap.size w t from by rw[<-j.o];exact (L_ w _ _).alloc (by simp;omega) _);obtain⟨N,M⟩:=a_ (w.heap.size+1);obtain⟨f,Z⟩:=a_ (w.heap.size+1+1);have b4:=q_ (show t.heap[z]?=some (.cells #[.slice AN n1 cN,.slice AE n2 cE] 54 (0,0)) from by rw[<-j.o,<-Hz.o];exact f2_ w _ _ _);have a7:=q_ (show t.heap[N]?=some (.cells kn 39 (0,0)) from by rw[<-j.o,<-M.o];exact f3_ w _ _ _);have J:=q_ (show t.heap[f]?=some (.cells #[.int .i64 0,.bool false,.int .i64 0,.string ⟨#[]⟩,.string ⟨#[]⟩,.slice none 0 0] 39 (0,0)) from by rw[<-j.o,<-Z.o];exact f4_ w _ _ _);have b1:=q_ (show w.heap.size<=z/\N=z+1/\f=z+2/\f<t.heap.size from by have h0:w.heap.size=z:=Hz.o;have h1:w.heap.size+1=N:=M.o;have h2:w.heap.size+1+1=f:=Z.o;have:=b_ J.o;omega);clear hk hv R hF;go_enter Tryz.func35,Tryz.ntmps35
 go_upto_region 1 with fail;rw[j.o,Z.o,M.o,Hz.o];clear j;go_wp2_with ((with_reducible refine e_ (some 11) ?_);refine A_ rfl 54 _ rfl z 0 rfl (#[.slice AN n1 cN,.slice AE n2 cE]) _ (p_ b4.o) Tryz.underlying54 rfl (U_ _ _) ?_)
 refine (P.o t X.o).mono ?_;rintro e w2 ⟨hb,ai⟩
 obtain⟨p,L,rfl,E,am⟩:∃p L,e = .returned (.tuple #[.pointer (some ⟨p,0,none⟩),.int .i64 0])/\dy_ w2 t.heap.size p L/\g4_ (af_ T) L:=by
  rcases ai with⟨hm,_⟩ | ⟨_,p,L,e1,e2,e3⟩
  ·rw[a.o.graph]at hm
   cases hm
  ·exact⟨p,L,e1,e2,e3⟩
 have ay:=pw_ a.o.graph am a.o.srt;subst ay;obtain⟨Ns,Es,mh,mt,ma,b2,n0,E⟩:=E;have aj:=q_ (Hd_ (af_ T) t.heap.size p Ns Es mh mt ma b2 n0 ((i:Nat):Int) w2 E (pp_ (by have:=ap.o;omega)) (Lo_ HV.o) (λx I=>⟨(a.o.fit.2.2.1 x I).1,(px_ a.o.graph).1 x I⟩));unfold zs_ at aj;have ad:=q_ (X.o.trans (hb.mono X.o.size));have b5:=q_ ((hb.block N (b_ a7.o)).trans a7.o);have a3:=q_ ((hb.block f (b_ J.o)).trans J.o);obtain⟨q0,q2⟩:=Cy_ i w2 N kn af b5.o;clear hb ai E am;go_wp2_with fail;refine aj.o.mono ?_;rintro e l ⟨x,y,A,n,c,B,m,d,I,a8,a6,rfl,aa,hb⟩;obtain rfl:y=E_ ((i:Nat):Int) v:=by have h:=iq_ a.o.graph a.o.srt I a6;rw[h];exact Ln_ HV.o I a8
 have a5:=q_ aa;have b7:=q_ hb;have ag:=q_ (ad.o.trans (hb.mono ad.o.size));have Y:=q_ ((hb.block f (b_ a3.o)).trans a3.o);clear I a8 a6 aa hb q0 q2;obtain⟨S,V⟩:=a_ l.heap.size;obtain⟨wa,G⟩:=a_ (l.alloc (.cells #[.int .i64 0,.slice none 0 0,.slice none 0 0] 72));have ah:=q_ (show Below l.heap.size l wa from by rw[<-G.o];exact (Below.refl _ _).alloc (Nat.le_refl _) _);have ac:=q_ (show wa.heap[S]?=some (.cells #[.int .i64 0,.slice none 0 0,.slice none 0 0] 72 (0,0)) from by rw[<-G.o,<-V.o];exact heap_alloc_new l _);go_upto_region 8 with ((with_reducible refine z_ 8 ?_);rw[G.o,V.o];refine r_ rfl 72 _ _ rfl S (#[.int .i64 0,.slice none 0 0,.slice none 0 0]) (#[.int .i64 ((i:Nat):Int),.slice A n c,.slice B m d]) 72 rfl rfl ac.o rfl (ae_ _ _ _) (e4_ _ _ _ _ _ _ _) ?_;intro w4 a1 a4)
 have s:=q_ (show Below l.heap.size l w4 from j_ ah.o a4 (λb e=>by have e:b=S:=e;have h2:l.heap.size=S:=V.o;omega));have O:=q_ (ag.o.trans (s.o.mono ag.o.size));have b3:=q_ a1;have U:=q_ ((s.o.block f (b_ Y.o)).trans Y.o);have a9:=q_ (a.o.val v (List.mem_of_getElem? HV.o));have ae:=bd_ ((i:Nat):Int) v;obtain⟨nd,ab⟩:∃nd,E_ ((i:Nat):Int) v=nd:=⟨_,rfl⟩;have ak:=q_ (l3_ ((i:Nat):Int) a9.o);have a2:=q_ (we_ ((i:Nat):Int) a9.o);rw[ab]at a5 ak a2 ae;obtain⟨aq,nL,nP⟩:=nd;have D:=rr_ aq nL nP (λb=>w2.heap.size<=b/\b<l.heap.size) (#[.int .i64 ((i:Nat):Int),.slice A n c,.slice B m d]) w4 (λb h=>Nat.lt_of_lt_of_le h.2 s.o.size) (NoR.good.keep a5.o (λq hq=>s.o.cell hq.2)) (f_ HG.o O.o) a2.o;unfold nj_ at D;rw[ak.o]at D;have av:=q_ D;clear a1 a4 G ac ah D ae ab;go_wp2_with ((with_reducible refine e_ (some 38) ?_);refine A_ rfl 72 _ rfl S 0 rfl (#[.int .i64 ((i:Nat):Int),.slice A n c,.slice B m d]) _ (p_ b3.o) Tryz.underlying72 rfl (ae_ _ _ _) ?_)
 refine av.o.mono ?_;rintro e w5 ⟨At,ct,rfl,hb⟩;obtain⟨cv,C⟩:=H_ v (.slice At 0 ct);rw[show c_ (v,true).1 (.slice At 0 ct)=cv from C.o];have a0:=q_ (b5_.trans (congrArg some C.size.symm));have b0:=q_ (show cv.all (·.oneCell')=true from by rw[<-C.o];kernel_rfl);have ao:=q_ ((hb.block f (b_ U.o)).trans U.o);have az:=q_ (O.o.trans (hb.mono O.o.size));clear hb;go_wp2_with ((with_reducible refine z_ 4 ?_);refine r_ rfl 39 _ _ rfl f (#[.int .i64 0,.bool false,.int .i64 0,.string ⟨#[]⟩,.string ⟨#[]⟩,.slice none 0 0]) cv 39 rfl rfl ao.o C.size a0.o b0.o ?_;intro w6 aw ar)
 refine bodyPost_ret (v:=.tuple #[.agg cv,.bool true]) (b1_ Tryz.results35 (g:=f) rfl aw _ Tryz.underlying39 rfl a0.o rfl) rfl ⟨At,ct,by rw[C.o],?_⟩;exact j_ az.o ar (λb e=>by have e:b=f:=e;have:=b1.o;omega)
end
end Go.Proofs.YtefhfadjajcmkaaGreatDoor
