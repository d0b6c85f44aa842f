/- One triple, its image; 'wakes' of mapping's laws: printed by gen_MX.py. -/
import Derived.Test.YtefhfadjajcmkaaGreatDoorHM
set_option linter.unusedVariables false
set_option linter.unusedSimpArgs false
set_option maxRecDepth 100000
set_option maxHeartbeats 64000000
namespace Go.Proofs.YtefhfadjajcmkaaGreatDoor
open Go.Lib (cell_of_heap)
section
open Go
theorem wf_ {c d : Type} (l:List c) (f:Nat -> c -> d) (key:d -> Int) (e:∀i a,key (f i a)=((i:Nat):Int)):(l.mapIdx f).Pairwise (λa b=>key a<key b):=by rw[List.pairwise_iff_getElem];intro i j hi k h;rw[List.getElem_mapIdx,List.getElem_mapIdx,e,e];omega
theorem r0_ {b c : Type} (l:List b) (f:Nat -> b -> c) (key:c -> Int) (d:∀i a,key (f i a)=((i:Nat):Int)):((l.mapIdx f).map key).Nodup:=by unfold List.Nodup;rw[List.pairwise_map];exact (wf_ l f key d).imp λh=>Int.ne_of_lt h
theorem p0_ {c d : Type} (l:List c) (f:Nat -> c -> d) (key:d -> Int) (e:∀i a,key (f i a)=((i:Nat):Int)):(l.mapIdx f).Pairwise (λa b=>¬dy_ (key b) (key a)<0):=
 (wf_ l f key e).imp (λh=>by rw[le_];omega)
theorem r1_ {c : Type} {R:c -> c -> Prop} {l:List c} (h:∀x,x∈l->R x x):bw_ R l l:=⟨rfl,λi x y d b=>by
 rw[d]at b;injection b with b;subst b;exact h x (List.mem_of_getElem? d)⟩
theorem dv_ {s:ByteArray} (h:s.size<=1048576):a0_ (txV s)=true:=by
 have h1:K_ (txV s) 0=true:=by unfold txV K_;simp[bh_,h]
 unfold a0_;rw[if_neg (show ¬(txV s).kind=5 from (by decide:¬(4:Int)=5))];unfold ba_;rw[h1];rfl
theorem r2_ {v:h_} (h:Y_ v) (c:¬(v.kind=8\/v.kind=9\/v.kind=10)):a0_ v=true:=by have b:=h.2.1;unfold a0_;rw[if_neg (by omega)];unfold ba_;rw[h.1,Bool.true_and];simp only[Bool.or_eq_true,beq_iff_eq];omega
theorem f6_ {k:ByteArray} {v:h_} (c:am_ k=true) (b:a0_ v=true):ak_ [⟨k,v⟩]=true:=by simp[ak_,a1_,inB,c,b]
theorem hx_ {k m:ByteArray} {v u:h_} (f:am_ k=true) (c:am_ m=true) (b:m≠k) (e:a0_ v=true) (d:a0_ u=true):ak_ [⟨k,v⟩,⟨m,u⟩]=true:=by simp[ak_,a1_,inB,f,c,e,d,b]
theorem he_ {s:ByteArray} (b:am_ s=true):a2_ [] [s]=true:=by simp[a2_,inB,b]
theorem tu_:am_ sV=true:=by decide
theorem L0_:am_ sX=true:=by decide
theorem Jw_:sX≠sV:=by decide
theorem I4_ (c:Int) {v:h_} (h:Y_ v):a2_ [] (E_ c v).labels=true/\(E_ c v).labels.length<=65536/\ak_ (E_ c v).props=true:=by
 obtain⟨b,d⟩:=hv_ h;unfold E_;split
 ·exact⟨he_ (by decide),by simp,f6_ tu_ (dv_ b)⟩
 ·split
  ·exact⟨he_ (by decide),by simp,f6_ tu_ (dv_ b)⟩
  ·split
   ·exact⟨he_ (by decide),by simp,hx_ tu_ L0_ Jw_ (dv_ b) (dv_ d)⟩
   ·rename_i h1 f i;exact⟨he_ (by decide),by simp,f6_ tu_ (r2_ h (λe=>e.elim h1 (λe=>e.elim f i)))⟩
theorem Gn_ (b:Int) (v:h_):kc_ (E_ b v) (E_ b v):=by
 refine⟨rfl,⟨List.Perm.refl _,?_⟩,⟨List.Perm.refl _,?_⟩⟩
 ·unfold E_
  (repeat' split)<;>exact List.pairwise_singleton _ _
 ·unfold E_;split
  ·exact List.pairwise_singleton _ _
  ·split
   ·exact List.pairwise_singleton _ _
   ·split
    ·refine List.pairwise_cons.2 ⟨λp c=>?_,List.pairwise_singleton _ _⟩;rw[List.mem_singleton.1 c];show ¬h8_ sX sV<0;decide
    ·exact List.pairwise_singleton _ _
theorem Go_ {e:l_} (h:e.props=[]):kd_ e e:=⟨rfl,rfl,rfl,rfl,List.Perm.refl _,by rw[h];exact List.Pairwise.nil⟩
theorem yj_ (b:Int) (v:h_):ke_ (E_ b v)=true:=by
 unfold E_
 (repeat' split)<;>rfl
theorem Gp_ (d:Int) {v:h_} (h:Y_ v):lh_ (E_ d v)=v:=by
 have c:=h.1;rcases bp_ h with⟨b,e⟩ | ⟨b,e⟩ | ⟨b,_,e⟩ | ⟨b,e⟩
 ·rw[e];rfl
 ·rw[e];rfl
 ·rw[e];rfl
 ·generalize v.kind=k at b e;generalize v.text=t at e;generalize v.extra=x at e;subst e;rcases b with rfl | rfl | rfl | rfl
  ·rfl
  ·obtain⟨_,_,rfl,_⟩:=lz_ c;rfl
  ·obtain⟨_,_,rfl,_⟩:=or_ c;rfl
  ·rfl
theorem r3_ (b:Int) {v:h_} (h:Y_ v):b7_ (E_ b v)=(v,true):=by
 have c:=h.2.1;unfold b7_
 rw[if_pos (yj_ b v),Gp_ b h,if_neg (by
  rintro (e | e | e)
  ·omega
  ·omega
  ·rw[h.1]at e;cases e),cc_,pg_.2 rfl]
theorem stands_place {D:List h_} (k:∀v,v∈D->Y_ v) {v:h_} (b:v∈D):cf_ (D.mapIdx λi v=>E_ (i:Nat) v) (a6_ D v)=v:=by
 classical
 have c:=hb_ b;have d:D[place D v]=v:=List.getElem_idxOf c;have e0:a6_ D v=((place D v:Nat):Int):=by unfold a6_;congr
 rw[e0];unfold cf_;split
 ·rename_i n e;have h1:=List.find?_some e;obtain⟨j,l,f⟩:=List.mem_mapIdx.1 (List.mem_of_find?_eq_some e);rw[<-f]at h1 ⊢;rw[cc_]at h1;have h1:((j:Nat):Int)=((place D v:Nat):Int):=by simpa using h1
  have h:j=place D v:=by omega
  subst h;rw[d,r3_ _ (k v b)]
 ·rename_i e;have:=List.find?_eq_none.1 e (E_ ((place D v:Nat):Int) v) (List.mem_mapIdx.2 ⟨place D v,c,by rw[d]⟩);rw[cc_]at this;simp at this
theorem yk_ {D:List h_} (d:∀v,v∈D->Y_ v) {T:List d_} (f:∀t,t∈T->t.s∈D/\t.o∈D/\nk_ t.p.text=t.p) :
    (T.mapIdx λi t=>(⟨((i:Nat):Int),a6_ D t.s,a6_ D t.o,t.p.text,[]⟩:l_)).map (d0_ (D.mapIdx λi v=>E_ (i:Nat) v))=T:=by
 refine List.ext_getElem (by simp) λi h1 e=>?_;obtain⟨a,b,c⟩:=f _ (List.getElem_mem e);rw[List.getElem_map,List.getElem_mapIdx];unfold d0_;simp only;rw[stands_place d a,stands_place d b,c]
theorem wg_ {t:d_} (h:dh_ t=true) (d:Y_ t.p):nk_ t.p.text=t.p/\am_ t.p.text=true:=by
 unfold dh_ at h;simp only[Bool.and_eq_true,decide_eq_true_eq]at h;have f:=h.2.2.2.1;have b:=h.2.1;rcases bp_ d with⟨c,_⟩ | ⟨c,_⟩ | ⟨c,_,_⟩ | ⟨_,e⟩
 ·omega
 ·omega
 ·omega
 ·rw[f]at e;generalize t.p = v at *;generalize v.text=s at e ⊢;generalize v.extra=x at e;subst e;obtain⟨_,_,rfl,_⟩:=lz_ b;refine⟨rfl,?_⟩;rw[yu_]at b;have:=(Bool.and_eq_true_iff.1 b).1;unfold gp_ at this;rw[Bool.and_eq_true]at this;exact this.1
structure ae_ (T:List d_):Prop where
 len:T.length<=65536
 may:∀t,t∈T->dh_ t=true
 scal:∀t,t∈T->ce_ t
 rise:j2_ (A_ (av_ 0)) T
theorem zn_ {L:List d_} (h1:L.length<=65536) (i:L.all dh_=true) (h:∀t,t∈L->OkT t):ae_ (bb_ (A_ (av_ 0)) L):=by have f:=List.all_eq_true.1 i;have d:∀t,t∈L->ce_ t:=λt c=>dg_ (f t c) (h t c);have e:=ek_ (be_ (av_ 0)) (l:=L) (λa j b hb h0=>io_ (e7_ 0) (d a j) (d b hb) h0);exact⟨Nat.le_trans (g8_ _ L) h1,λt c=>f t ((e.2 t).1 c),λt c=>d t ((e.2 t).1 c),e.1⟩
section
variable {T:List d_}
theorem ae_.all (h:ae_ T):T.all dh_=true:=List.all_eq_true.2 h.may
theorem ae_.again (h:ae_ T):bb_ (A_ (av_ 0)) T=T:=by have c:=ek_ (be_ (av_ 0)) (l:=T) (λa d b hb h0=>io_ (e7_ 0) (h.scal a d) (h.scal b hb) h0);exact in_ (be_ _) c.1 h.rise c.2
theorem ae_.ends (h:ae_ T):∀v,v∈dn_ T->Y_ v:=λv c=>by
 obtain⟨t,b,e | e⟩:=pf_ c
 ·rw[e];exact (h.scal t b).s
 ·rw[e];exact (h.scal t b).o
theorem ae_.vals (h:ae_ T):j2_ G_ (J_ T)/\∀v,v∈J_ T↔v∈dn_ T:=
 ek_ el_ (l:=dn_ T) λa c b hb h0=>e6_ (h.ends a c) (h.ends b hb) h0
theorem ae_.val (h:ae_ T):∀v,v∈J_ T->Y_ v:=λv b=>h.ends v ((h.vals.2 v).1 b)
theorem ae_.vlen (h:ae_ T):(J_ T).length<=131072:=by have h1:=g8_ G_ (dn_ T);have b:=jd_ T;have c:=h.len;unfold J_;omega
theorem ae_.mem (h:ae_ T):∀t,t∈T->t.s∈J_ T/\t.o∈J_ T:=λt b=>
 ⟨(h.vals.2 _).2 (List.mem_flatMap.2 ⟨t,b,by simp⟩),(h.vals.2 _).2 (List.mem_flatMap.2 ⟨t,b,by simp⟩)⟩
theorem ae_.fit (h:ae_ T):f4_ (aj_ T):=Iy_ (Nat.le_trans h.vlen (by omega)) h.len h.val h.mem (λt b=>(h.scal t b).p)
theorem ae_.num (h:ae_ T):kf_ (aj_ T):=λn d p b=>by
 obtain⟨i,hi,e⟩:=List.mem_mapIdx.1 d;have c:=h.val _ (List.getElem_mem hi);rw[<-e]at b;generalize (J_ T)[i]=v at c b;unfold E_ at b;split at b
 ·rw[List.mem_singleton.1 b];exact c5_ ..
 ·split at b
  ·rw[List.mem_singleton.1 b];exact c5_ ..
  ·split at b
   ·rcases List.mem_cons.1 b with e | e
    ·rw[e];exact c5_ ..
    ·rw[List.mem_singleton.1 e];exact c5_ ..
   ·rw[List.mem_singleton.1 b];exact⟨c.2.2.1,c.2.2.2⟩
theorem ae_.graph (h:ae_ T):ch_ (aj_ T)=true:=by
 unfold ch_;rw[Bool.and_eq_true,Bool.and_eq_true,decide_eq_true_eq];have q_:(aj_ T).nodes.map i_.id=(List.range (J_ T).length).map (λi=>((i:Nat):Int)):=by refine List.ext_getElem (by unfold aj_;simp) λi h1 o=>?_;simp only[List.getElem_map,aj_,List.getElem_mapIdx,cc_,List.getElem_range]
 refine⟨⟨?_,?_⟩,?_,?_⟩
 ·show ((J_ T).mapIdx _).length<=_;rw[List.length_mapIdx];exact h.vlen
 ·show (T.mapIdx _).length<=_;rw[List.length_mapIdx];exact h.len
 ·refine (du_ nw_).2 ⟨λn l=>⟨?_,by simp⟩,r0_ _ _ i_.id (λi v=>cc_ _ _)⟩;obtain⟨i,hi,e⟩:=List.mem_mapIdx.1 l;rw[<-e];exact⟨by rw[cc_];omega,I4_ _ (h.val _ (List.getElem_mem hi))⟩
 ·refine (du_ (nx_ _)).2 ⟨λe f=>⟨?_,by simp⟩,r0_ _ _ l_.id (λi t=>rfl)⟩;obtain⟨i,hi,j⟩:=List.mem_mapIdx.1 f;have c:=List.getElem_mem hi;have d:=h.mem _ c
  have b:∀v,v∈J_ T->a6_ (J_ T) v∈(aj_ T).nodes.map i_.id:=λv k=>by
   rw[q_];unfold a6_;classical
   exact List.mem_map.2 ⟨_,List.mem_range.2 (hb_ k),rfl⟩
  rw[<-j];exact⟨by show (0:Int)<=((i:Nat):Int);omega,b _ d.1,b _ d.2,(wg_ (h.may _ c) (h.scal _ c).p).2,by rfl⟩
theorem ae_.srt (c:ae_ T):hs_ (aj_ T) (aj_ T):=
 ⟨⟨_,r1_ (λn b=>by
     obtain⟨i,hi,e⟩:=List.mem_mapIdx.1 b;rw[<-e];exact Gn_ _ _),List.Perm.refl _,p0_ _ _ i_.id (λi v=>cc_ _ _)⟩,
  ⟨_,r1_ (λn b=>by
     obtain⟨i,hi,e⟩:=List.mem_mapIdx.1 b;rw[<-e];exact Go_ rfl),List.Perm.refl _,p0_ _ _ l_.id (λi t=>rfl)⟩⟩
theorem ae_.plain (h:ae_ T) {G:u_} (d:ec_ (aj_ T) G):G=aj_ T:=by obtain⟨f,h1,b,c⟩:=d;have e:=Gj_ h.graph h1 h.srt;subst e;exact yh_ h.graph h1 b c
theorem ae_.stands (h:ae_ T):∀n,n∈(aj_ T).nodes->(b7_ n).2=true:=λn b=>by
 obtain⟨i,hi,e⟩:=List.mem_mapIdx.1 b;rw[<-e,r3_ _ (h.val _ (List.getElem_mem hi))]
theorem ae_.edges (h:ae_ T):(aj_ T).edges.map (d0_ (aj_ T).nodes)=T:=
 yk_ h.val λt b=>⟨(h.mem t b).1,(h.mem t b).2,(wg_ (h.may t b) (h.scal t b).p).1⟩
theorem ae_.back (h:ae_ T):aw_ (aj_ T)=some T:=by unfold aw_;rw[if_pos ⟨h.stands,by rw[h.edges];exact h.len,by rw[h.edges];exact h.all,by rw[h.edges,h.again]⟩,h.edges]
end
theorem tv_ {G:u_} {T:List d_} (h:aw_ G=some T) (c:f4_ G) (o:kf_ G):∃U,ae_ U/\G=aj_ U:=by
 unfold aw_ at h;split at h
 ·rename_i l;obtain⟨h1,j,p,i⟩:=l
  have d:∀t,t∈G.edges.map (d0_ G.nodes)->OkT t:=λt k=>by
   obtain⟨e,f,rfl⟩:=List.mem_map.1 k;exact (pz_ (λn b=>⟨h1 n b,(c.2.2.1 n b).1,o n b⟩) (c.2.2.2 e f).1.1).1
  exact⟨_,zn_ j p d,i.symm⟩
 ·cases h
theorem r4_ {g b:u_} (h:hs_ g b) {n:i_} (e:n∈g.nodes):∃m,m∈b.nodes/\m.labels.Perm n.labels/\m.props.Perm n.props:=by obtain⟨⟨k,h1,d,_⟩,_⟩:=h;obtain⟨y,f,c⟩:=pu_ h1 d e;exact⟨y,f,c.2.1.1,c.2.2.1⟩
theorem r5_ {g b:u_} (h:hs_ g b) {e:l_} (d:e∈g.edges):∃m,m∈b.edges/\m.type=e.type/\m.props.Perm e.props:=by obtain⟨_,⟨k,h1,f,_⟩⟩:=h;obtain⟨y,i,c⟩:=pu_ h1 f d;exact⟨y,i,c.2.2.2.1,c.2.2.2.2.1⟩
theorem r6_ {g b:u_} (h:hs_ g b) {e:l_} (d:e∈b.edges):∃m,m∈g.edges/\e.src=m.src/\e.dst=m.dst:=by obtain⟨_,⟨k,h1,f,_⟩⟩:=h;obtain⟨y,i,c⟩:=et_ h1 f d;exact⟨y,i,c.2.1,c.2.2.1⟩
theorem my_ {g G:u_} (h:ec_ g G) {n:i_} (f:n∈g.nodes):∃m,m∈G.nodes/\m.labels.Perm n.labels/\m.props.Perm n.props:=by obtain⟨k,h1,d⟩:=dc_ h;obtain⟨y,i,b,c⟩:=r4_ h1 f;obtain⟨z,hz,e,j⟩:=r4_ d i;exact⟨z,hz,e.trans b,j.trans c⟩
theorem mz_ {g G:u_} (h:ec_ g G) {n:l_} (f:n∈g.edges):∃m,m∈G.edges/\m.type=n.type/\m.props.Perm n.props:=by obtain⟨k,h1,d⟩:=dc_ h;obtain⟨y,i,b,c⟩:=r5_ h1 f;obtain⟨z,hz,e,j⟩:=r5_ d i;exact⟨z,hz,e.trans b,j.trans c⟩
theorem wh_ {g G:u_} (h:ec_ g G) {e:l_} (d:e∈G.edges):∃m,m∈g.edges/\e.src=m.src/\e.dst=m.dst:=by obtain⟨l,h1,f⟩:=dc_ h;obtain⟨y,j,b,c⟩:=r6_ f d;obtain⟨z,hz,i,k⟩:=r6_ h1 j;exact⟨z,hz,b.trans i,c.trans k⟩
theorem yl_ {g G:u_} (h:ec_ g G):G.nodes.length=g.nodes.length:=by obtain⟨c,h1,b⟩:=dc_ h;rw[(px_ b).1,(px_ h1).1]
theorem wi_ {T:List d_} {n:i_} (h:n∈(aj_ T).nodes):n.labels.length=1/\∀p,p∈n.props->p.key=sV\/p.key=sX:=by
 obtain⟨i,hi,e⟩:=List.mem_mapIdx.1 h;rw[<-e];generalize (J_ T)[i]=v;refine⟨by unfold E_;(repeat' split)<;>rfl,λp b=>?_⟩
 unfold E_ at b;split at b
 ·rw[List.mem_singleton.1 b];exact .inl rfl
 ·split at b
  ·rw[List.mem_singleton.1 b];exact .inl rfl
  ·split at b
   ·rcases List.mem_cons.1 b with e | e
    ·rw[e];exact .inl rfl
    ·rw[List.mem_singleton.1 e];exact .inr rfl
   ·rw[List.mem_singleton.1 b];exact .inl rfl
theorem Cm_ {t:d_} (h:dh_ t=true) (d:Y_ t.p):gp_ t.p.text=true:=by
 unfold dh_ at h;simp only[Bool.and_eq_true,decide_eq_true_eq]at h;have f:=h.2.2.2.1;have b:=h.2.1;rcases bp_ d with⟨c,_⟩ | ⟨c,_⟩ | ⟨c,_,_⟩ | ⟨_,e⟩
 ·omega
 ·omega
 ·omega
 ·rw[f]at e;rw[e]at b;rw[yu_]at b;exact (Bool.and_eq_true_iff.1 b).1
theorem wj_ {T:List d_} (c:ae_ T) {e:l_} (h:e∈(aj_ T).edges):e.props=[]/\gp_ e.type=true:=by obtain⟨i,hi,d⟩:=List.mem_mapIdx.1 h;rw[<-d];have b:=List.getElem_mem hi;exact⟨rfl,Cm_ (c.may _ b) (c.scal _ b).p⟩
theorem Gq_ {T:List d_} (l:ae_ T) {i:Nat} (hi:i<(aj_ T).nodes.length):∃e,e∈(aj_ T).edges/\(e.src=((i:Nat):Int)\/e.dst=((i:Nat):Int)):=by
 have hi:i<(J_ T).length:=by have h:(aj_ T).nodes.length=(J_ T).length:=List.length_mapIdx;omega
 have d:=List.getElem_mem hi
 have b:a6_ (J_ T) (J_ T)[i]=((i:Nat):Int):=by
  classical
  have e0:a6_ (J_ T) (J_ T)[i]=((place (J_ T) (J_ T)[i]:Nat):Int):=by unfold a6_;congr
  have c:=hb_ d;have k:(J_ T)[place (J_ T) (J_ T)[i]]=(J_ T)[i]:=List.getElem_idxOf c;have f:=List.pairwise_iff_getElem.1 l.vals.1;rw[e0];rcases Nat.lt_trichotomy (place (J_ T) (J_ T)[i]) i with h | h | h
  ·have:=f _ _ c hi h;rw[k,df_]at this;omega
  ·omega
  ·have:=f _ _ hi c h;rw[k,df_]at this;omega
 obtain⟨t,x,e⟩:=pf_ ((l.vals.2 _).1 d);obtain⟨j,u,y⟩:=List.mem_iff_getElem.1 x;refine⟨⟨((j:Nat):Int),a6_ (J_ T) t.s,a6_ (J_ T) t.o,t.p.text,[]⟩,List.mem_mapIdx.2 ⟨j,u,by rw[y]⟩,?_⟩;rcases e with e | e
 ·left;rw[<-b,e]
 ·right;rw[<-b,e]
theorem I5_ {T:List d_} (f:ae_ T) {e:l_} (h:e∈(aj_ T).edges):e.src<((aj_ T).nodes.length:Nat)/\e.dst<((aj_ T).nodes.length:Nat):=by
 obtain⟨i,hi,c⟩:=List.mem_mapIdx.1 h;rw[<-c];have b:=f.mem _ (List.getElem_mem hi);have d:(aj_ T).nodes.length=(J_ T).length:=List.length_mapIdx;rw[d];classical
 have h1:=hb_ b.1;have j:=hb_ b.2;unfold a6_;simp only;exact⟨by omega,by omega⟩
theorem f7_ {g G:u_} (c:ec_ g G) (d:f4_ g) (f:kf_ g) (b:∀U,ae_ U->G=aj_ U->False):aw_ G=none:=by
 cases h:aw_ G with
 | none=>rfl
 | some T=>
  obtain⟨U,i,e⟩:=tv_ h (f5_ d c) (py_ f c);exact (b U i e).elim
def sZz:ByteArray:=⟨#[122,122,122,122]⟩
def h5_:ByteArray:=⟨#[78,111,100,101]⟩
def sW:ByteArray:=⟨#[119]⟩
def sAB:ByteArray:=⟨#[97,32,98]⟩
def ed_:h_:=.mk 2 false 0 ⟨#[]⟩ ⟨#[]⟩ []
theorem dw_ {g:u_}:ch_ g=true↔(g.nodes.length<=131072/\g.edges.length<=65536)/\((∀n,n∈g.nodes->0<=n.id/\a2_ [] n.labels=true/\n.labels.length<=65536/\ak_ n.props=true)/\(g.nodes.map i_.id).Nodup) /\
    (∀e,e∈g.edges->0<=e.id/\e.src∈g.nodes.map i_.id/\e.dst∈g.nodes.map i_.id/\am_ e.type=true/\ak_ e.props=true)/\(g.edges.map l_.id).Nodup:=by
 unfold ch_;rw[Bool.and_eq_true,Bool.and_eq_true,decide_eq_true_eq,du_ nw_,du_ (nx_ _)];simp only[List.not_mem_nil,not_false_eq_true,and_true]
structure r7_ (T:List d_) (g:u_):Prop where
 may:ch_ g=true
 fit:f4_ g
 num:kf_ g
 none:∀G,ec_ g G->aw_ G=none
theorem Gr_ {k m j:ByteArray} {v u x:h_} (l:am_ k=true) (b:am_ m=true) (c:am_ j=true) (h1:m≠k) (f:j≠k) (i:j≠m) (h:a0_ v=true) (d:a0_ u=true) (e:a0_ x=true):ak_ [⟨k,v⟩,⟨m,u⟩,⟨j,x⟩]=true:=by simp[ak_,a1_,inB,l,b,c,h,d,e,h1,f,i]
theorem f8_:a0_ ed_=true:=by rfl
theorem K0_ (l:Int) {v:h_} (h:Y_ v):ak_ ((E_ l v).props++[⟨sW,ed_⟩])=true:=by
 obtain⟨c,f⟩:=hv_ h;have b:am_ sW=true:=by decide
 have h1:sW≠sV:=by decide
 have j:sW≠sX:=by decide
 unfold E_;split
 ·exact hx_ tu_ b h1 (dv_ c) f8_
 ·split
  ·exact hx_ tu_ b h1 (dv_ c) f8_
  ·split
   ·exact Gr_ tu_ L0_ b Jw_ h1 j (dv_ c) (dv_ f) f8_
   ·rename_i k d i;exact hx_ tu_ b h1 (r2_ h (λe=>e.elim k (λe=>e.elim d i))) f8_
theorem Cn_ {s t:ByteArray} (c:am_ s=true) (b:am_ t=true) (h:t≠s):a2_ [] [s,t]=true:=by simp[a2_,inB,c,b,h]
theorem K1_ (b:Int) (v:h_):a2_ [] ((E_ b v).labels++[h5_])=true/\((E_ b v).labels++[h5_]).length=2:=by
 unfold E_
 (repeat' split)<;>exact⟨Cn_ (by decide) (by decide) (by decide),rfl⟩
section
variable {T:List d_} {n0:i_} {r:List i_} {e0:l_} {q:List l_}
theorem r8_ (c:ae_ T) (h:aj_ T=⟨n0::r,e0::q⟩):∃v,Y_ v/\n0=E_ 0 v:=by
 have b:(aj_ T).nodes[0]?=some n0:=by rw[h];rfl
 have b:((J_ T).mapIdx λi v=>E_ ((i:Nat):Int) v)[0]?=some n0:=b;rw[List.getElem?_mapIdx]at b
 cases hv:(J_ T)[0]? with
 | none=>rw[hv]at b;cases b
 | some v=>
  rw[hv]at b;injection b with b;exact⟨v,c.val v (List.mem_of_getElem? hv),b.symm⟩
theorem hf_ (b:ae_ T) (h:aj_ T=⟨n0::r,e0::q⟩):ch_ ⟨n0::r,e0::q⟩=true/\f4_ ⟨n0::r,e0::q⟩/\kf_ ⟨n0::r,e0::q⟩:=by rw[<-h];exact⟨b.graph,b.fit,b.num⟩
theorem ym_ {l:List C_} (h:ak_ l=true):l.length<=65536:=by unfold ak_ at h;rw[Bool.and_eq_true,decide_eq_true_eq]at h;exact h.2
theorem wk_ (d:ae_ T) (c:T.length<=40) (h:aj_ T=⟨n0::r,e0::q⟩):(n0::r).length<=80:=by have b:(aj_ T).nodes.length=(J_ T).length:=List.length_mapIdx;rw[h]at b;have b:(n0::r).length=(J_ T).length:=b;have h1:=g8_ G_ (dn_ T);have e:=jd_ T;rw[b];unfold J_;omega
theorem I6_ {s:ByteArray} (b:s.size<=1048576):vs_ ⟨sV,txV s⟩:=pp_ (by decide) b
theorem Jx_:vs_ ⟨sW,ed_⟩:=⟨by decide,by decide⟩
theorem L1_:qm_ ed_:=c5_ ..
theorem Gs_ (c:ae_ T) (h:(aj_ T).edges.length≠0):∃n0 r e0 q,aj_ T=⟨n0::r,e0::q⟩:=by
 have b:=c.graph;generalize aj_ T=g at h b;obtain⟨N,E⟩:=g
 cases E with
 | nil=>exact absurd rfl h
 | cons e0 q=>
  cases N with
  | nil=>
   have:=((dw_.1 b).2.2.1 e0 List.mem_cons_self).2.1;simp at this
  | cons n0 r=>exact⟨n0,r,e0,q,rfl⟩
theorem K2_ (A:ae_ T) (D:T.length<=40) (h:aj_ T=⟨n0::r,e0::q⟩):r7_ T ⟨(n0::r)++[⟨(((n0::r).length:Nat):Int),[ne_],[⟨sV,txV sZz⟩]⟩],e0::q⟩:=by
 obtain⟨O,u,b⟩:=hf_ A h;obtain⟨⟨_,V⟩,⟨I,S⟩,N,W⟩:=dw_.1 O;have o:=wk_ A D h
 have z:∀n,n∈n0::r->n.id<(((n0::r).length:Nat):Int):=λn b=>by
  have b:n∈(aj_ T).nodes:=by rw[h];exact b
  obtain⟨i,hi,e⟩:=List.mem_mapIdx.1 b;have o:(aj_ T).nodes.length=(J_ T).length:=List.length_mapIdx;rw[h]at o;have o:(n0::r).length=(J_ T).length:=o;rw[<-e,cc_];omega
 have k:f4_ ⟨(n0::r)++[⟨(((n0::r).length:Nat):Int),[ne_],[⟨sV,txV sZz⟩]⟩],e0::q⟩:=by
  refine⟨by rw[List.length_append,List.length_singleton];omega,u.2.1,λn b=>?_,u.2.2.2⟩;rcases List.mem_append.1 b with b | b
  ·exact u.2.2.1 n b
  ·rw[List.mem_singleton.1 b];refine⟨⟨by simp,by simp,λs l=>?_,λp c=>?_⟩,tq_ (by omega)⟩
   ·rw[List.mem_singleton.1 l];decide
   ·rw[List.mem_singleton.1 c];exact I6_ (by decide)
 have j:kf_ ⟨(n0::r)++[⟨(((n0::r).length:Nat):Int),[ne_],[⟨sV,txV sZz⟩]⟩],e0::q⟩:=λn d p c=>by
  rcases List.mem_append.1 d with d | d
  ·exact b n d p c
  ·rw[List.mem_singleton.1 d]at c;rw[List.mem_singleton.1 c];exact c5_ ..
 refine⟨dw_.2 ⟨⟨by rw[List.length_append,List.length_singleton];omega,V⟩,⟨λn b=>?_,?_⟩,λe E=>?_,W⟩,k,j,λG c=>f7_ c k j λU J e=>?_⟩
 ·rcases List.mem_append.1 b with b | b
  ·exact I n b
  ·rw[List.mem_singleton.1 b];exact⟨by show (0:Int)<=(((n0::r).length:Nat):Int);omega,he_ (by decide),by simp,f6_ tu_ (dv_ (by decide))⟩
 ·rw[List.map_append];refine List.nodup_append.2 ⟨S,by simp,λx t y B e=>?_⟩;obtain⟨n,b,rfl⟩:=List.mem_map.1 t;have:=z n b;simp at B;rw[e,B]at this;simp at this
 ·obtain⟨R,M,X,c4,Y⟩:=N e E;exact⟨R,by rw[List.map_append];exact List.mem_append.2 (.inl M),by rw[List.map_append];exact List.mem_append.2 (.inl X),c4,Y⟩
 ·have C:=yl_ c;rw[e,List.length_append,List.length_singleton]at C;obtain⟨x,t,Z⟩:=Gq_ J (i:=(n0::r).length) (by rw[C];omega);rw[<-e]at t;obtain⟨m,f,e1,e2⟩:=wh_ c t;have f:m∈(aj_ T).edges:=by rw[h];exact f
  have l:=I5_ A f;rw[h]at l;simp only at l;omega
theorem K3_ (u:ae_ T) (h:aj_ T=⟨n0::r,e0::q⟩):r7_ T ⟨⟨n0.id,n0.labels++[h5_],n0.props⟩::r,e0::q⟩:=by
 obtain⟨D,f,b⟩:=hf_ u h;obtain⟨⟨A,M⟩,⟨t,J⟩,C,N⟩:=dw_.1 D;obtain⟨v,X,x⟩:=r8_ u h;have c:=K1_ 0 v;rw[<-x]at c
 have l:f4_ ⟨⟨n0.id,n0.labels++[h5_],n0.props⟩::r,e0::q⟩:=by
  refine⟨f.1,f.2.1,λn b=>?_,f.2.2.2⟩;rcases List.mem_cons.1 b with b | b
  ·rw[b];obtain⟨⟨Y,O,z,y⟩,B⟩:=f.2.2.1 n0 List.mem_cons_self;refine⟨⟨by simp only;rw[c.2];omega,O,λs i=>?_,y⟩,B⟩;rcases List.mem_append.1 i with i | i
   ·exact z s i
   ·rw[List.mem_singleton.1 i];decide
  ·exact f.2.2.1 n (List.mem_cons_of_mem _ b)
 have j:kf_ ⟨⟨n0.id,n0.labels++[h5_],n0.props⟩::r,e0::q⟩:=λn k p d=>by
  rcases List.mem_cons.1 k with e | k
  ·rw[e]at d;exact b n0 List.mem_cons_self p d
  ·exact b n (List.mem_cons_of_mem _ k) p d
 refine⟨dw_.2 ⟨⟨A,M⟩,⟨λn b=>?_,J⟩,C,N⟩,l,j,λG d=>f7_ d l j λU S e=>?_⟩
 ·rcases List.mem_cons.1 b with e | b
  ·obtain⟨I,V,W,c4⟩:=t n0 List.mem_cons_self;rw[e];exact⟨I,c.1,by simp only;rw[c.2];omega,c4⟩
  ·exact t n (List.mem_cons_of_mem _ b)
 ·obtain⟨m,o,E,_⟩:=my_ d List.mem_cons_self;rw[e]at o;have h1:=(wi_ o).1;have R:=E.length_eq;rw[c.2]at R;omega
theorem K4_ (t:ae_ T) (h:aj_ T=⟨n0::r,e0::q⟩):r7_ T ⟨⟨n0.id,n0.labels,n0.props++[⟨sW,ed_⟩]⟩::r,e0::q⟩:=by
 obtain⟨E,d,c⟩:=hf_ t h;obtain⟨⟨z,M⟩,⟨o,J⟩,D,N⟩:=dw_.1 E;obtain⟨v,R,u⟩:=r8_ t h;have f:=K0_ 0 R;rw[<-u]at f
 have k:f4_ ⟨⟨n0.id,n0.labels,n0.props++[⟨sW,ed_⟩]⟩::r,e0::q⟩:=by
  refine⟨d.1,d.2.1,λn c=>?_,d.2.2.2⟩;rcases List.mem_cons.1 c with c | c
  ·rw[c];obtain⟨⟨S,W,y,x⟩,B⟩:=d.2.2.1 n0 List.mem_cons_self;refine⟨⟨S,Nat.le_trans (ym_ f) (by decide),y,λp b=>?_⟩,B⟩;rcases List.mem_append.1 b with b | b
   ·exact x p b
   ·rw[List.mem_singleton.1 b];exact Jx_
  ·exact d.2.2.1 n (List.mem_cons_of_mem _ c)
 have i:kf_ ⟨⟨n0.id,n0.labels,n0.props++[⟨sW,ed_⟩]⟩::r,e0::q⟩:=λn j p b=>by
  rcases List.mem_cons.1 j with e | j
  ·rw[e]at b;rcases List.mem_append.1 b with b | b
   ·exact c n0 List.mem_cons_self p b
   ·rw[List.mem_singleton.1 b];exact L1_
  ·exact c n (List.mem_cons_of_mem _ j) p b
 refine⟨dw_.2 ⟨⟨z,M⟩,⟨λn c=>?_,J⟩,D,N⟩,k,i,λG b=>f7_ b k i λU V e=>?_⟩
 ·rcases List.mem_cons.1 c with e | c
  ·obtain⟨I,C,O,c4⟩:=o n0 List.mem_cons_self;rw[e];exact⟨I,C,O,f⟩
  ·exact o n (List.mem_cons_of_mem _ c)
 ·obtain⟨m,l,_,A⟩:=my_ b List.mem_cons_self;rw[e]at l;have h1:=(wi_ l).2 ⟨sW,ed_⟩ (A.mem_iff.2 (List.mem_append.2 (.inr (List.mem_singleton.2 rfl))));rcases h1 with h1 | h1
  ·exact absurd h1 (by decide)
  ·exact absurd h1 (by decide)
theorem K5_ (y:ae_ T) (h:aj_ T=⟨n0::r,e0::q⟩):r7_ T ⟨n0::r,⟨e0.id,e0.src,e0.dst,sAB,e0.props⟩::q⟩:=by
 obtain⟨z,c,b⟩:=hf_ y h;obtain⟨⟨p,D⟩,⟨t,C⟩,k,E⟩:=dw_.1 z
 have f:f4_ ⟨n0::r,⟨e0.id,e0.src,e0.dst,sAB,e0.props⟩::q⟩:=by
  refine⟨c.1,c.2.1,c.2.2.1,λn b=>?_⟩;rcases List.mem_cons.1 b with b | b
  ·rw[b];obtain⟨⟨N,J,o⟩,l⟩:=c.2.2.2 e0 List.mem_cons_self;exact⟨⟨(by decide:sAB.size<=2000000),J,o⟩,l⟩
  ·exact c.2.2.2 n (List.mem_cons_of_mem _ b)
 have d:kf_ ⟨n0::r,⟨e0.id,e0.src,e0.dst,sAB,e0.props⟩::q⟩:=b;refine⟨dw_.2 ⟨⟨p,D⟩,⟨t,C⟩,λn b=>?_,E⟩,f,d,λG j=>f7_ j f d λU u e=>?_⟩
 ·rcases List.mem_cons.1 b with e | b
  ·obtain⟨B,x,I,c4,M⟩:=k e0 List.mem_cons_self;rw[e];exact⟨B,x,I,(by decide:am_ sAB=true),M⟩
  ·exact k n (List.mem_cons_of_mem _ b)
 ·obtain⟨m,i,A,_⟩:=mz_ j List.mem_cons_self;rw[e]at i;have h1:=(wj_ u i).2;rw[A]at h1;exact absurd (show gp_ sAB=true from h1) (by decide)
theorem K6_ (z:ae_ T) (h:aj_ T=⟨n0::r,e0::q⟩):r7_ T ⟨n0::r,⟨e0.id,e0.src,e0.dst,e0.type,[⟨sW,ed_⟩]⟩::q⟩:=by
 obtain⟨A,c,b⟩:=hf_ z h;obtain⟨⟨t,D⟩,⟨u,C⟩,k,E⟩:=dw_.1 A
 have f:f4_ ⟨n0::r,⟨e0.id,e0.src,e0.dst,e0.type,[⟨sW,ed_⟩]⟩::q⟩:=by
  refine⟨c.1,c.2.1,c.2.2.1,λn b=>?_⟩;rcases List.mem_cons.1 b with b | b
  ·rw[b];obtain⟨⟨J,N,M⟩,o⟩:=c.2.2.2 e0 List.mem_cons_self;exact⟨⟨J,by simp,λp i=>by rw[List.mem_singleton.1 i];exact Jx_⟩,o⟩
  ·exact c.2.2.2 n (List.mem_cons_of_mem _ b)
 have d:kf_ ⟨n0::r,⟨e0.id,e0.src,e0.dst,e0.type,[⟨sW,ed_⟩]⟩::q⟩:=b;refine⟨dw_.2 ⟨⟨t,D⟩,⟨u,C⟩,λn b=>?_,E⟩,f,d,λG i=>f7_ i f d λU x e=>?_⟩
 ·rcases List.mem_cons.1 b with e | b
  ·obtain⟨B,y,I,c4,O⟩:=k e0 List.mem_cons_self;rw[e];exact⟨B,y,I,c4,f6_ (by decide) f8_⟩
  ·exact k n (List.mem_cons_of_mem _ b)
 ·obtain⟨m,j,_,l⟩:=mz_ i List.mem_cons_self;rw[e]at j;rw[(wj_ x j).1]at l;have:=l.length_eq;simp at this
end
end
section
open Go Go.RowKit Go.Maps
theorem da_.head {t : Type} {R R':bi_ t} {E sz lo hi n cp g j:Nat} {w w':World} {x y:t} {r:List t} {cs:Nat->Array Value} {a:Nat->Nat} {F:Nat->Prop} {v:Value}
    (h:da_ E sz R w lo hi (x::r) (some ⟨g,0,none⟩) n cp cs a) (D:R'.Good) (I:∀{w:World} {F:Nat->Prop} {x:t} {c:Array Value},R w F x c->R' w F x c)
    (u:∀p:Addr,p.block<w.heap.size->p.block≠g->¬(a 0<=p.block/\p.block<a 1)->w'.cell? p=w.cell? p)
    (f:∀k,k≠j->w'.cell? ⟨g,k,none⟩=w.cell? ⟨g,k,none⟩) (h1:w'.cell? ⟨g,j,none⟩=some v) (hj:j<sz)
    (G:∀b,lo<=b->b<hi->F b) (O:R' w' F y ((cs 0).setIfInBounds j v)):SRd sz R' w' F (y::r) (some ⟨g,0,none⟩) n:=by
 have A:=h.len;have N:n=r.length+1:=by rw[<-A];rfl
 have o:=h.own g rfl
 have d:∀i k,i<n->k<sz->w.cell? ⟨g,i*sz+k,none⟩=(cs i)[k]?:=λi k hi l=>by
  have J:(i+1)*sz<=n*sz:=Nat.mul_le_mul_right sz (by omega);rw[Nat.succ_mul]at J;have B:=h.row.cellAt (i*sz+k) (by omega);rw[az_ h.sz hi l]at B;exact B
 refine⟨by rw[N];rfl,λ_=>⟨⟨g,0,none⟩,rfl,G _ o.1 o.2,λi z hz=>?_⟩⟩
 cases i with
 | zero=>
  have hz:y=z:=by simpa using hz
  subst hz;refine⟨(cs 0).setIfInBounds j v,by rw[Array.size_setIfInBounds];exact h.sz 0 (by omega),λk l=>?_,O⟩;rw[Addr.add_mid,Nat.zero_mul,Nat.zero_add,Nat.zero_add];have hs:=h.sz 0 (by omega);by_cases e:k=j
  ·subst e;rw[h1,Array.getElem?_setIfInBounds_self_of_lt (by omega)]
  ·rw[f k e,Array.getElem?_setIfInBounds_ne (λU=>e U.symm)];have:=d 0 k (by omega) l;rwa [Nat.zero_mul,Nat.zero_add]at this
 | succ i=>
  have hz:r[i]?=some z:=by simpa using hz
  have W:=b8_ hz;have C:=h.el (i+1) z (by simpa using hz);have V:=h.up 1 (i+1) (by omega);have Y:=h.up (i+1+1) n (by omega);have Z:=h.up 0 1 (by omega);have X:=h.lo_;have a0:=h.hi_;have M:=h.top;refine⟨cs (i+1),h.sz _ (by omega),λk l=>?_,D.mono (D.keep (I C) (λp S=>?_)) (λb hb=>G b (by omega) (by omega))⟩
  ·have J:sz<=(i+1)*sz:=Nat.le_mul_of_pos_left sz (by omega);rw[Addr.add_mid,Nat.zero_add,f _ (by omega)];exact d (i+1) k (by omega) l
  ·exact u p (by omega) (λe=>S.2.2 (by rw[e];rfl)) (by omega)
theorem da_.addr {b : Type} {R:bi_ b} {E sz lo hi n cp:Nat} {w:World} {x:b} {r:List b} {A:Option Addr} {cs:Nat->Array Value} {a:Nat->Nat} (h:da_ E sz R w lo hi (x::r) A n cp cs a):∃g,A=some ⟨g,0,none⟩:=by have d:=h.len;obtain⟨g,e,c,_,_⟩:=h.row.form (by rw[<-d];simp);injection c with hA _ _;exact⟨g,hA⟩
section
variable {w w':World} {lo hi n cp g:Nat} {n0:i_} {r:List i_} {e0:l_} {q:List l_} {cs:Nat->Array Value} {a:Nat->Nat} {F:Nat->Prop} {L P v:Value} {m:Nat} {s:ByteArray} {p0:C_}
theorem zo_ (h:da_ 72 3 NoO w lo hi (n0::r) (some ⟨g,0,none⟩) n cp cs a) (t:cs 0=#[.int .i64 n0.id,L,P])
    (o:x_ 69 7 PaR w (λb=>(a 0<=b/\b<a 1/\g≠b)/\m<=b) n0.props P) (d:∀b,L.ownBlock=some b->a 0<=b/\b<a 1/\b<m)
    (i:Turn (λb=>L.ownBlock=some b\/b=g\/w.heap.size<=b) w w') (c:∀k,k≠1->w'.cell? ⟨g,k,none⟩=w.cell? ⟨g,k,none⟩) (h1:w'.cell? ⟨g,1,none⟩=some v)
    (j:∀b,lo<=b->b<hi->F b) (x:SlR 1 TxR w' F (n0.labels++[s]) v):SRd 3 NoR w' F (⟨n0.id,n0.labels++[s],n0.props⟩::r) (some ⟨g,0,none⟩) n:=by
 have z:=h.up 1 n (by have:=h.len;simp at this;omega);have A:=h.lo_;have B:=h.hi_;have u:=h.top;refine h.head NoR.good (λh=>NoO.rd h) (λp f y l=>i.cell f (λe=>?_)) c h1 (by omega) j ⟨v,P,by rw[t];rfl,x,?_⟩
 ·rcases e with e | e | e
  ·exact l ⟨(d _ e).1,(d _ e).2.1⟩
  ·exact y e
  ·omega
 ·refine ((o.rd PaR.good).keep PaR.good (λp f=>i.cell (by omega) (λe=>?_))).mono PaR.good (λb hb=>j b (by omega) (by omega));rcases e with e | e | e
  ·have:=(d _ e).2.2;omega
  ·exact f.1.2.2 e.symm
  ·omega
theorem zp_ (h:da_ 72 3 NoO w lo hi (n0::r) (some ⟨g,0,none⟩) n cp cs a) (o:cs 0=#[.int .i64 n0.id,L,P])
    (u:x_ 9 1 TxR w (λb=>(a 0<=b/\b<a 1/\g≠b)/\b<m) n0.labels L) (d:∀b,P.ownBlock=some b->a 0<=b/\b<a 1/\m<=b)
    (i:Turn (λb=>P.ownBlock=some b\/b=g\/w.heap.size<=b) w w') (c:∀k,k≠2->w'.cell? ⟨g,k,none⟩=w.cell? ⟨g,k,none⟩) (h1:w'.cell? ⟨g,2,none⟩=some v)
    (j:∀b,lo<=b->b<hi->F b) (x:SlR 7 PaR w' F (n0.props++[p0]) v):SRd 3 NoR w' F (⟨n0.id,n0.labels,n0.props++[p0]⟩::r) (some ⟨g,0,none⟩) n:=by
 have z:=h.up 1 n (by have:=h.len;simp at this;omega);have A:=h.lo_;have B:=h.hi_;have t:=h.top;refine h.head NoR.good (λh=>NoO.rd h) (λp f y l=>i.cell f (λe=>?_)) c h1 (by omega) j ⟨L,v,by rw[o];rfl,?_,x⟩
 ·rcases e with e | e | e
  ·exact l ⟨(d _ e).1,(d _ e).2.1⟩
  ·exact y e
  ·omega
 ·refine ((u.rd TxR.good).keep TxR.good (λp f=>i.cell (by omega) (λe=>?_))).mono TxR.good (λb hb=>j b (by omega) (by omega));rcases e with e | e | e
  ·have:=(d _ e).2.2;omega
  ·exact f.1.2.2 e.symm
  ·omega
theorem I7_ (h:da_ 74 5 EdO w lo hi (e0::q) (some ⟨g,0,none⟩) n cp cs a) (l:cs 0=#[.int .i64 e0.id,.int .i64 e0.src,.int .i64 e0.dst,.string e0.type,P])
    (j:x_ 69 7 PaR w (λb=>a 0<=b/\b<a 1/\g≠b) e0.props P)
    (f:Turn (λb=>b=g\/w.heap.size<=b) w w') (c:∀k,k≠3->w'.cell? ⟨g,k,none⟩=w.cell? ⟨g,k,none⟩) (h1:w'.cell? ⟨g,3,none⟩=some (.string s))
    (i:∀b,lo<=b->b<hi->F b):SRd 5 EdR w' F (⟨e0.id,e0.src,e0.dst,s,e0.props⟩::q) (some ⟨g,0,none⟩) n:=by
 have u:=h.up 1 n (by have:=h.len;simp at this;omega);have x:=h.lo_;have y:=h.hi_;have o:=h.top;refine h.head EdR.good (λh=>EdO.rd h) (λp d t z=>f.cell d (λe=>?_)) c h1 (by omega) i ⟨P,by rw[l];rfl,?_⟩
 ·rcases e with e | e
  ·exact t e
  ·omega
 ·refine ((j.rd PaR.good).keep PaR.good (λp d=>f.cell (by omega) (λe=>?_))).mono PaR.good (λb hb=>i b (by omega) (by omega));rcases e with e | e
  ·exact d.2.2 e.symm
  ·omega
theorem I8_ {l:List C_} (h:da_ 74 5 EdO w lo hi (e0::q) (some ⟨g,0,none⟩) n cp cs a) (f:cs 0=#[.int .i64 e0.id,.int .i64 e0.src,.int .i64 e0.dst,.string e0.type,P])
    (d:Turn (λb=>b=g\/w.heap.size<=b) w w') (c:∀k,k≠4->w'.cell? ⟨g,k,none⟩=w.cell? ⟨g,k,none⟩) (h1:w'.cell? ⟨g,4,none⟩=some v)
    (j:∀b,lo<=b->b<hi->F b) (i:SlR 7 PaR w' F l v):SRd 5 EdR w' F (⟨e0.id,e0.src,e0.dst,e0.type,l⟩::q) (some ⟨g,0,none⟩) n:=by
 refine h.head EdR.good (λh=>EdO.rd h) (λp o t u=>d.cell o (λe=>?_)) c h1 (by omega) j ⟨v,by rw[f];rfl,i⟩;rcases e with e | e
 ·exact t e
 ·omega
end
theorem cg_.sownT {w:World} {F:Nat->Prop} {l:List d_} {s:Value} (h:cg_ 41 18 CT w l s) (e:∀g,s.ownBlock=some g->F g):x_ 41 18 TrR w F l s:=by obtain⟨cs,b,c⟩:=h;exact⟨cs,b,λi hi=>fz_.size (c i _ (List.getElem?_eq_getElem hi)),e,λi x d=>fz_.trR (c i x d) w _⟩
def ssE (A:Option Addr) (c:Nat) (B:Option Addr) (d:Nat):Nat->Value:=λn=>if n=0 then .slice A 0 c else if n=1 then .slice none 0 0 else .slice B 0 d
theorem Gt_ (A:Option Addr) (c:Nat) (B:Option Addr) (d:Nat) (i:Nat):∃X q,ssE A c B d i = .slice X 0 q:=by
 unfold ssE;split
 ·exact⟨_,_,rfl⟩
 ·split
  ·exact⟨_,_,rfl⟩
  ·exact⟨_,_,rfl⟩
theorem Gu_ (b:List i_) (e:l_) (A:Option Addr) (c:Nat) (B:Option Addr) (d:Nat) (W:World):(Instr.build 41 #[(0,.agg (c_ (cf_ b e.src) (.slice A 0 c))),(1,.agg (c_ (nk_ e.type) (.slice none 0 0))),(2,.agg (c_ (cf_ b e.dst) (.slice B 0 d)))]).run Tryz.prog W = .ok (.agg (L_ (d0_ b e) (ssE A c B d))) W:=
 rf_ (d0_ b e) (ssE A c B d) W
theorem r9_ {T:List d_} (h:ae_ T):((aj_ T).nodes.length<=1000000000/\(aj_ T).edges.length<=1000000000)/\∀n,n∈(aj_ T).nodes->n.labels.length<=1000000000/\n.props.length<=1000000000/\∀p,p∈n.props->p.v.list=[]:=by
 refine⟨⟨?_,?_⟩,λn b=>?_⟩
 ·show ((J_ T).mapIdx _).length<=_;rw[List.length_mapIdx];have:=h.vlen;omega
 ·show (T.mapIdx _).length<=_;rw[List.length_mapIdx];have:=h.len;omega
 ·obtain⟨i,hi,e⟩:=List.mem_mapIdx.1 b;rw[<-e];exact⟨(mj_ _ _).1,(mj_ _ _).2,pq_ _ (g6_ (h.val _ (List.getElem_mem hi)))⟩
theorem wl_ {T:List d_}:∀e,e∈(aj_ T).edges->e.props=[]:=λe b=>by
 obtain⟨i,hi,e⟩:=List.mem_mapIdx.1 b;rw[<-e]
theorem K7_ (t:ByteArray) (W:World):(Instr.build 39 #[(0,.int .i64 8),(3,.string t)]).run Tryz.prog W = .ok (.agg (c_ (nk_ t) (.slice none 0 0))) W:=nu_ 8 t W
theorem lj_ (g:u_) (b9:f4_ g) (F:Nat->Prop) (u:Value) (w:World) (hF:∀b,F b->b<w.heap.size) (hg:GrR w F g u) (cj:kf_ g) (cb:M_ w) (d5:bc_ w) :
    Calls Tryz.prog 29 #[u] w (mk_ g w):=by
 have c8:=q_ (λ(W:World) (hb:Below w.heap.size w W)=>wc_ g b9 F u W (λb k=>Nat.lt_of_lt_of_le (hF b k) hb.size) (hg.under hb hF) (g_ cb hb));unfold rm_ at c8;have HG:=q_ cb;have fn:=q_ d5;have er:=q_ cj;have Y:=q_ b9;obtain⟨NV,EV,rfl,⟨AN,cN,rfl,_,_⟩,AE,cE,rfl,_,_⟩:=hg;obtain⟨n1,fr⟩:=a_ g.nodes.length;obtain⟨n2,f9⟩:=a_ g.edges.length;rw[fr.o,f9.o]at c8 ⊢;obtain⟨z,Hz⟩:=a_ w.heap.size;obtain⟨w1,bq⟩:=a_ (w.alloc (.cells #[.slice AN n1 cN,.slice AE n2 cE] 54));have ci:=q_ (show Below w.heap.size w w1 from by rw[<-bq.o];exact (Below.refl _ _).alloc (Nat.le_refl _) _);have g9:=q_ (show w1.heap[z]?=some (.cells #[.slice AN n1 cN,.slice AE n2 cE] 54 (0,0)) from by rw[<-bq.o,<-Hz.o];exact heap_alloc_new w _);clear b9 cb d5 cj hF;go_enter Tryz.func29,Tryz.ntmps29
 go_upto_region 1 with fail;rw[bq.o,Hz.o];clear bq;go_wp2_with ((with_reducible refine e_ (some 17) ?_);refine w_ rfl 54 _ rfl z 0 rfl (#[.slice AN n1 cN,.slice AE n2 cE]) _ (k_ g9.o) Tryz.underlying54 rfl (t_ _ _) ?_)
 refine (c8.o w1 ci.o).mono ?_;rintro e w2 ⟨hb,f0⟩;have br:=q_ (ci.o.trans (hb.mono ci.o.size));rcases f0 with⟨hm,rfl⟩ | ⟨hm,p,g',rfl,ab,bm⟩
 ·have HM:=q_ hm;clear hm hb;go_wp2_with fail;go_ret2;exact⟨br.o,.inl ⟨HM.o,rfl⟩⟩
 ·have HM:=q_ hm;have fc:=q_ bm;obtain⟨Ns,Es,mh,mt,ma,fw,n0,ab⟩:=ab;have d0:=q_ (tt_ Y.o bm);have da:=q_ (ny_ hm bm);have c9:=q_ (B9_ g' _ p Ns Es mh mt ma fw n0 w2 ab d0.o (we_ da.o).1 (we_ da.o).2);unfold zj_ at c9;clear hm bm ab hb;go_wp2_with fail;refine c9.o.mono ?_;rintro e x ⟨A,c,B,d,y,E,rfl,dq,aa,eb,dv⟩;have R:=q_ (show ec_ g ⟨y,E⟩ from ⟨g',fc.o,eb,dv⟩);have dp:=q_ aa;have cq:=q_ (br.o.trans (dq.mono br.o.size));obtain⟨m1,ar⟩:=a_ y.length;obtain⟨U,ah⟩:=a_ E.length;rw[ar.o,ah.o]at dp ⊢;have f1:=q_ (show w.heap.size<=w2.heap.size from br.o.size)
  have fs:=q_ (show SRd 3 NoR x (λb=>w2.heap.size<=b/\b<x.heap.size) y A m1 from by
   obtain⟨_,_,e,h1,C⟩:=aa
   cases e;rw[<-ar.o];exact h1.rd)
  have g8:=q_ (show SRd 5 EdR x (λb=>w2.heap.size<=b/\b<x.heap.size) E B U from by
   obtain⟨_,_,e,h1,C⟩:=aa
   cases e;rw[<-ah.o];exact C.rd)
  clear dq aa eb dv c9;obtain⟨z6,au⟩:=a_ x.heap.size;obtain⟨wa,f⟩:=a_ (x.alloc (.cells #[.slice none 0 0,.slice none 0 0] 54));have M:=q_ (show Below x.heap.size x wa from by rw[<-f.o];exact (Below.refl _ _).alloc (Nat.le_refl _) _);have G:=q_ (show wa.heap[z6]?=some (.cells #[.slice none 0 0,.slice none 0 0] 54 (0,0)) from by rw[<-f.o,<-au.o];exact heap_alloc_new x _);go_upto_region 5 with ((with_reducible refine y_ 6 ?_);rw[f.o,au.o];refine m_ rfl 54 _ _ rfl z6 (#[.slice none 0 0,.slice none 0 0]) (#[.slice A m1 c,.slice B U d]) 54 rfl rfl G.o rfl (t_ _ _) (bf_ _ _ _ _ _ _) ?_;intro w4 bk di)
  have c7:=q_ (show Below x.heap.size x w4 from j_ M.o di (λb e=>by have e:b=z6:=e;have C:x.heap.size=z6:=au.o;omega));obtain⟨m,Hm⟩:=a_ w4.heap.size;obtain⟨w5,bl⟩:=a_ (w4.alloc (.map #[] 0));have f2:=q_ (show (Instr.makeMap 134 none).run Tryz.prog w4 = .ok (.map (some m)) w5 from by rw[<-bl.o,<-Hm.o];exact Iz_ w4);have bw:=q_ (show Below w4.heap.size w4 w5 from by rw[<-bl.o];exact (Below.refl _ _).alloc (Nat.le_refl _) _);have cr:=q_ ((bw.o.block z6 (b_ bk)).trans bk);have ca:=q_ (show StM w5 m [] from StM.fresh (by rw[<-bl.o,<-Hm.o];exact heap_alloc_new w4 _));have O:=q_ (show Below x.heap.size x w5 from c7.o.trans (bw.o.mono c7.o.size));have d2:=q_ (show Below w.heap.size w w5 from cq.o.trans (O.o.mono cq.o.size));have ap:=q_ (show x.heap.size=z6/\z6<m/\m<w5.heap.size/\w.heap.size<=w2.heap.size/\w.heap.size<=x.heap.size from ⟨au.o,by have:=b_ bk;have C:w4.heap.size=m:=Hm.o;omega,ca.o.lt,f1.o,cq.o.size⟩);have ak:=q_ (show m1<=2000000/\U<=2000000 from by obtain⟨gc,h1,C,h3⟩:=R.o;have hl:=px_ h1;have h4:=C.1;have h5:=h3.1;have h6:=Y.o.1;have h7:=Y.o.2.1;have h8:y.length=m1:=ar.o;have h9:E.length=U:=ah.o;simp only at h4 h5;omega);clear bk di f G M bl au Hm;go_upto_region 6 with ((with_reducible refine e_ (some 25) ?_);refine Fr_ rfl 134 rfl m _ f2.o ?_)
  have x0:w5.cell? ⟨z6,0,none⟩=some (.slice A m1 c):=cell_of_heap cr.o 0;go_wp2_with fail;clear x0;go_loopw [29] (λc1 D=>∃k:Nat,k<=m1/\c1 = .int .i64 (k:Nat)/\Q_ (∃l,Turn (λb=>b=m\/w5.heap.size<=b) w5 D/\StM D m l/\bw_ rx_ (y.take k) l)) (λc1 _=>m1-(intOf c1).toNat)
  case atStart=>exact⟨0,by omega,rfl,q_ ⟨[],Turn.refl _ _,ca.o,bw_.nil _⟩⟩
  case round=>
   rename World=>D
   obtain⟨k,hk,rfl,hR⟩:=hrel;obtain⟨l,ht,ab,df⟩:=hR.o;have Z:=q_ ht;have fv:=q_ ht;have dl:=q_ ab;have cx:=q_ df;have a8:=q_ (show Below w.heap.size w D from j_ d2.o ht (λb h=>by have h1:=ap.o;have C:=d2.o.size;rcases h with h | h<;>omega))
   have bz:=q_ (show ∀p:Addr,p.block<x.heap.size->D.cell? p=x.cell? p from λp hp=>(Z.o.cell (Nat.lt_of_lt_of_le hp O.o.size) (λh=>by have h1:=ap.o;have C:=O.o.size;rcases h with h | h<;>omega)).trans (O.o.cell hp))
   have b6:=q_ ((Z.o.block z6 (b_ cr.o) (λh=>by have h1:=ap.o;rcases h with h | h<;>omega)).trans cr.o)
   clear hR ht ab df;by_cases a5:k<m1
   ·have a1:(0:Int)<=k:=by omega
    have a2:(k:Int)<m1:=by omega
    have cu:=ak.o;have f7:IntKind.i64.wrap ((k:Int)+1)=(k:Int)+1:=IntWalk.i64_in _ (by omega);clear cu;have e6:=q_ a5;obtain⟨nd,bs⟩:∃nd,y[k]?=some nd:=⟨_,List.getElem?_eq_getElem (by rw[ar.o];exact a5)⟩;have cl:=q_ bs;have eg:=q_ ((f5_ Y.o R.o).2.2.1 nd (List.mem_of_getElem? bs));obtain⟨ad,cn,rfl,az,a4,dx,ae⟩:=fs.o.at_ bs;have fz:=q_ (λ(W:World) (hW:∀p:Addr,p.block<x.heap.size->W.cell? p=x.cell? p)=>(show NoR W (λb=>w2.heap.size<=b/\b<x.heap.size) nd cn from NoR.good.keep ae (λp hp=>hW p hp.2)));have LN:=q_ (λj (hj:j<cn.size)=>(show D.cell? ((ad.add (k*3)).add j)=cn[j]? from by rw[add_of_add,bz.o _ (by rw[bu_];exact az.2)];exact dx j (by rw[a4]at hj;exact hj)));have IN:=q_ (show (Tryz.prog.info? 72).map (·.size)=some cn.size from tc_.trans (congrArg some a4.symm));have ON:=q_ (td_ ae);have SN:=q_ (show cn.size=(#[.int .i64 0,.slice none 0 0,.slice none 0 0]:Array Value).size from a4);have fu:=q_ (show cn[0]?=some (.int .i64 nd.id) from by obtain⟨_,_,e,_⟩:=ae;rw[e];rfl);clear a5 bs az a4 dx ae;obtain⟨z9,bx⟩:=a_ D.heap.size;obtain⟨wa,f⟩:=a_ (D.alloc (.cells #[.int .i64 0,.slice none 0 0,.slice none 0 0] 72));have M:=q_ (show Below D.heap.size D wa from by rw[<-f.o];exact (Below.refl _ _).alloc (Nat.le_refl _) _);have G:=q_ (show wa.heap[z9]?=some (.cells #[.int .i64 0,.slice none 0 0,.slice none 0 0] 72 (0,0)) from by rw[<-f.o,<-bx.o];exact heap_alloc_new D _)
    go_upto_region 9 with (first
     | ((with_reducible refine e_ (some 32) ?_);refine ag_ (by rfl) 72 _ rfl rfl cn _ LN.o Tryz.underlying72 rfl IN.o ?_)
     | ((with_reducible refine y_ 9 ?_);rw[f.o,bx.o];refine m_ rfl 72 _ _ rfl z9 (#[.int .i64 0,.slice none 0 0,.slice none 0 0]) cn 72 rfl rfl G.o SN.o IN.o ON.o ?_;intro V b0 ay))
    have ac:=q_ b0;have a7:=q_ (show Below D.heap.size D V from j_ M.o ay (λb e=>by have e:b=z9:=e;have C:D.heap.size=z9:=bx.o;omega));have fi:=q_ (a8.o.trans (a7.o.mono a8.o.size));have dd:=q_ (show x.heap.size<=D.heap.size from Nat.le_trans O.o.size Z.o.size);have eo:=q_ (show ∀p:Addr,p.block<x.heap.size->V.cell? p=x.cell? p from λp hp=>(a7.o.cell (Nat.lt_of_lt_of_le hp dd.o)).trans (bz.o p hp));clear b0 ay f G LN;obtain⟨id,L,P⟩:=nd;have bh:=q_ (Cb_ id L P (λb=>w2.heap.size<=b/\b<x.heap.size) cn V (λb h=>Nat.lt_of_lt_of_le h.2 (Nat.le_trans dd.o a7.o.size)) (fz.o V eo.o) (g_ HG.o fi.o) eg.o.1);unfold ts_ at bh;obtain⟨tv,ds⟩:=a_ (b7_ ⟨id,L,P⟩).1;obtain⟨tb,c3⟩:=a_ (b7_ ⟨id,L,P⟩).2;rw[ds.o,c3.o]at bh;go_wp2_with ((with_reducible refine e_ (some 34) ?_);refine w_ rfl 72 _ rfl z9 0 rfl cn _ (k_ ac.o) Tryz.underlying72 rfl IN.o ?_)
    refine bh.o.mono ?_;rintro e wc ⟨At,ct,rfl,c2⟩;obtain⟨cv,b4⟩:=F_ tv (.slice At 0 ct);rw[b4.o];have dm:=q_ (dq_.trans (congrArg some b4.size.symm));have fl:=q_ (show cv.all (·.oneCell')=true from by rw[<-b4.o];kernel_rfl);have dt:=q_ c2;have b8:=q_ ((c2.block z9 (b_ ac.o)).trans ac.o);clear c2 bh;obtain⟨av,bf⟩:=a_ wc.heap.size;obtain⟨wd,bp⟩:=a_ (wc.alloc (.cells #[.int .i64 0,.bool false,.int .i64 0,.string ⟨#[]⟩,.string ⟨#[]⟩,.slice none 0 0] 39));have fg:=q_ (show Below wc.heap.size wc wd from by rw[<-bp.o];exact (Below.refl _ _).alloc (Nat.le_refl _) _);have ei:=q_ (show wd.heap[av]?=some (.cells #[.int .i64 0,.bool false,.int .i64 0,.string ⟨#[]⟩,.string ⟨#[]⟩,.slice none 0 0] 39 (0,0)) from by rw[<-bp.o,<-bf.o];exact heap_alloc_new wc _);go_upto_region 10 with ((with_reducible refine y_ 10 ?_);rw[bp.o,bf.o];refine m_ rfl 39 _ _ rfl av (#[.int .i64 0,.bool false,.int .i64 0,.string ⟨#[]⟩,.string ⟨#[]⟩,.slice none 0 0]) cv 39 rfl rfl ei.o b4.size dm.o fl.o ?_;intro we d6 dw)
    have fk:=q_ d6;have dy:=q_ (show Below wc.heap.size wc we from j_ fg.o dw (λb e=>by have e:b=av:=e;have C:wc.heap.size=av:=bf.o;omega));have ez:=q_ ((dy.o.block z9 (b_ b8.o)).trans b8.o);have bg:=q_ (show Below D.heap.size D we from a7.o.trans ((dt.o.trans (dy.o.mono dt.o.size)).mono a7.o.size));have eu:=q_ (show Below w.heap.size w we from a8.o.trans (bg.o.mono a8.o.size));clear d6 dw bp ei b8
    cases tb with
    | false=>
     have am:=q_ (show aw_ ⟨y,E⟩=none from by
      unfold aw_;rw[if_neg];rintro⟨h,_⟩;have:=h _ (List.mem_of_getElem? cl.o);rw[c3.o]at this
      cases this)
     go_wp2_with fail;go_ret2;exact⟨eu.o,.inr ⟨HM.o,_,R.o,.inl ⟨am.o,rfl⟩⟩⟩
    | true=>
     have g7:=q_ (show VI id from eg.o.2);have ew:=q_ (show id∉l.map (·.1) from by rw[Gk_ cx.o];exact pm_ (pt_ (yi_ HM.o R.o)) cl.o);have e0:we.cell? ⟨z9,0,none⟩=some (.int .i64 id):=(cell_of_heap ez.o 0).trans fu.o;obtain⟨wf,co,e9,db⟩:=Ce_ (dl.o.on bg.o) g7.o ew.o (.agg cv);have en:=q_ co;have fj:=q_ e9;have g3:=q_ db;have f3:=q_ (show rx_ ⟨id,L,P⟩ (id,.agg cv) from ⟨rfl,c3.o,At,ct,by rw[ds.o,b4.o]⟩);clear co e9 db
     go_wp2_with (first
      | ((with_reducible refine e_ (some 43) ?_);refine w_ rfl 39 _ rfl av 0 rfl cv _ (k_ fk.o) Tryz.underlying39 rfl dm.o ?_)
      | (at_mapUpdate;refine Kz_ rfl 134 _ _ _ rfl _ _ _ rfl rfl rfl wf en.o ?_))
     go_roundw
     case rel=>exact⟨k+1,by have:=e6.o;omega,by go_num,q_ ⟨l++[(id,.agg cv)],(Z.o.trans (Turn.ofB bg.o)).trans (g3.o.mono (λi _ e=>.inl e)),fj.o,by rw[f_ cl.o];exact cx.o.snoc f3.o⟩⟩
     case measure=>have:=e6.o;simp[intOf];omega
   ·have a2:¬(k:Int)<m1:=by omega
    have ao:=q_ (show bw_ rx_ y l from by have h:=cx.o;rwa [List.take_of_length_le (by have C:y.length=m1:=ar.o;omega)]at h);have b7:=q_ (show ∀n,n∈y->(b7_ n).2=true/\tn_ n/\∀p,p∈n.props->qm_ p.v from λn hn=>⟨by obtain⟨i,hi,e⟩:=List.mem_iff_getElem.1 hn;have hl:=ao.o.1;exact (ao.o.2 i n _ (by rw[<-e];exact List.getElem?_eq_getElem hi) (List.getElem?_eq_getElem (by omega))).2.1,((f5_ Y.o R.o).2.2.1 n hn).1,py_ er.o R.o n hn⟩);obtain⟨i0,ej,ee,ec,d9⟩:=info_parts zc_;have g4:=q_ ej;have g1:=q_ ee;have fm:=q_ ec;have f8:=q_ d9;clear ej ee ec d9;have x1:D.cell? ⟨z6,1,none⟩=some (.slice B U d):=cell_of_heap b6.o 1;clear a5;have f5:=q_ (show LdP 41 18 CT D ((E.take 0).map (d0_ y)) (.slice none 0 0) D from LdP.start D);go_wp2_with fail;clear a2 x1;go_loopw [12,48] (λfh ck I=>∃(j:Nat) (S:Value),j<=U/\ck = .int .i64 (j:Nat)/\S=fh/\Q_ (LdP 41 18 CT D ((E.take j).map (d0_ y)) S I)) (λ_ ck _=>U-(intOf ck).toNat)
    case atStart=>exact⟨0,_,by omega,rfl,rfl,q_ f5.o⟩
    case round=>
     rename World=>I
     obtain⟨j,S,hj,rfl,rfl,bi⟩:=hrel;have J:=q_ bi.o;have ai:=q_ (show Below D.heap.size D I from bi.o.hb);have g2:=q_ (show ∀p:Addr,p.block<x.heap.size->I.cell? p=x.cell? p from λp hp=>(bi.o.hb.cell (Nat.lt_of_lt_of_le hp (Nat.le_trans O.o.size Z.o.size))).trans (bz.o p hp));clear bi;by_cases a5:j<U
     ·have a1:(0:Int)<=j:=by omega
      have a2:(j:Int)<U:=by omega
      have cu:=ak.o;have f7:IntKind.i64.wrap ((j:Int)+1)=(j:Int)+1:=IntWalk.i64_in _ (by omega);clear cu;have c4:=q_ a5;obtain⟨N,af⟩:∃N,E[j]?=some N:=⟨_,List.getElem?_eq_getElem (by rw[ah.o];exact a5)⟩;have fx:=q_ af;have cz:=q_ ((f5_ Y.o R.o).2.2.2 N (List.mem_of_getElem? af));obtain⟨bd,ce,rfl,az,a4,d3,cd⟩:=g8.o.at_ af;have LE:=q_ (λi (hi:i<ce.size)=>(show I.cell? ((bd.add (j*5)).add i)=ce[i]? from by rw[add_of_add,g2.o _ (by rw[bu_];exact az.2)];exact d3 i (by rw[a4]at hi;exact hi)));have IE:=q_ (show (Tryz.prog.info? 74).map (·.size)=some ce.size from xy_.trans (congrArg some a4.symm));have OE:=q_ (te_ cd);have SE:=q_ (show ce.size=(#[.int .i64 0,.int .i64 0,.int .i64 0,.string ⟨#[]⟩,.slice none 0 0]:Array Value).size from a4);obtain⟨Pe,qe,dc⟩:=ph_ cd;have c0:=q_ dc;clear a5 af az a4 d3 cd dc;obtain⟨a9,b5⟩:=a_ I.heap.size;obtain⟨wa,f⟩:=a_ (I.alloc (.cells #[.int .i64 0,.int .i64 0,.int .i64 0,.string ⟨#[]⟩,.slice none 0 0] 74));have M:=q_ (show Below I.heap.size I wa from by rw[<-f.o];exact (Below.refl _ _).alloc (Nat.le_refl _) _);have G:=q_ (show wa.heap[a9]?=some (.cells #[.int .i64 0,.int .i64 0,.int .i64 0,.string ⟨#[]⟩,.slice none 0 0] 74 (0,0)) from by rw[<-f.o,<-b5.o];exact heap_alloc_new I _)
      go_upto_region 18 with (first
       | ((with_reducible refine e_ (some 51) ?_);refine ag_ (by rfl) 74 _ rfl rfl ce _ LE.o Tryz.underlying74 rfl IE.o ?_)
       | ((with_reducible refine y_ 14 ?_);rw[f.o,b5.o];refine m_ rfl 74 _ _ rfl a9 (#[.int .i64 0,.int .i64 0,.int .i64 0,.string ⟨#[]⟩,.slice none 0 0]) ce 74 rfl rfl G.o SE.o IE.o OE.o ?_;intro V b0 ay))
      have ac:=q_ b0;have a7:=q_ (show Below I.heap.size I V from j_ M.o ay (λb e=>by have e:b=a9:=e;have C:I.heap.size=a9:=b5.o;omega));have ef:=q_ (show StM V m l from dl.o.on (ai.o.trans (a7.o.mono ai.o.size)));obtain⟨src,bc⟩:=a_ N.src;obtain⟨dst,ba⟩:=a_ N.dst;obtain⟨ty,eh⟩:=a_ N.type;have b1:V.cell? ⟨a9,1,none⟩=some (.int .i64 src):=(cell_of_heap ac.o 1).trans (by rw[c0.o,<-bc.o];rfl);have b2:V.cell? ⟨a9,2,none⟩=some (.int .i64 dst):=(cell_of_heap ac.o 2).trans (by rw[c0.o,<-ba.o];rfl);have b3:V.cell? ⟨a9,3,none⟩=some (.string ty):=(cell_of_heap ac.o 3).trans (by rw[c0.o,<-eh.o];rfl);have dk:=q_ (rr_ ef.o (show VI src from by rw[<-bc.o];exact cz.o.2.2.1));have d8:=q_ (rr_ ef.o (show VI dst from by rw[<-ba.o];exact cz.o.2.2.2));clear b0 ay f G LE;obtain⟨B1,q1,e1⟩:=ry_ ao.o N.src;obtain⟨B2,q2,e2⟩:=ry_ ao.o N.dst;obtain⟨u0,ea⟩:=F_ (cf_ y N.src) (.slice B1 0 q1);obtain⟨u1,dg⟩:=F_ (nk_ N.type) (.slice none 0 0);obtain⟨u2,e8⟩:=F_ (cf_ y N.dst) (.slice B2 0 q2);obtain⟨ct,cf⟩:=bn_ (d0_ y N) (ssE B1 q1 B2 q2);have fe:=q_ (λW:World=>(show (Instr.build 41 #[(0,.agg u0),(1,.agg u1),(2,.agg u2)]).run Tryz.prog W = .ok (.agg ct) W from by rw[<-ea.o,<-dg.o,<-e8.o,<-cf.o];exact Gu_ y N B1 q1 B2 q2 W));have g0:=q_ (λW:World=>(show (Instr.build 39 #[(0,.int .i64 8),(3,.string ty)]).run Tryz.prog W = .ok (.agg u1) W from by rw[<-dg.o,<-eh.o];exact K7_ N.type W));have ff:=q_ (show (Instr.lookup 134 (.map (some m)) (.int .i64 src) false).run Tryz.prog V = .ok (.agg u0) V from by rw[dk.o,<-bc.o,e1,ea.o]);have ft:=q_ (show (Instr.lookup 134 (.map (some m)) (.int .i64 dst) false).run Tryz.prog V = .ok (.agg u2) V from by rw[d8.o,<-ba.o,e2,e8.o]);have f4:=q_ (show fz_ ct (d0_ y N) from ⟨(pz_ b7.o (show N.type.size<=2000000 from cz.o.1.1)).2,_,λi _=>Gt_ B1 q1 B2 q2 i,cf.o.symm⟩);have fy:=q_ cf.size;have e5:=q_ (J.o.on a7.o);have cy:=q_ (e5.o.on ((Below.refl _ _).alloc (Nat.le_refl _) (.cells ct 41)));have dn:=q_ (E8_ gh_ f4.o V 41);have ep:=q_ (show ((E.take j).map (d0_ y)).length<=2000000 from by rw[List.length_map,List.length_take];have:=ak.o;have:=c4.o;omega);clear e1 e2 dk d8
      go_upto_region 19 with (first
       | ((with_reducible refine e_ (some 56) ?_);refine Gg_ rfl 134 _ _ rfl (.map (some m)) (.int .i64 src) rfl rfl _ ff.o ?_)
       | ((with_reducible refine e_ (some 59) ?_);refine N_ rfl 39 _ rfl #[(0,.int .i64 8),(3,.string ty)] (by kernel_rfl) (.agg u1) (g0.o _) ?_)
       | ((with_reducible refine e_ (some 63) ?_);refine Gg_ rfl 134 _ _ rfl (.map (some m)) (.int .i64 dst) rfl rfl _ ft.o ?_)
       | ((with_reducible refine e_ (some 64) ?_);refine N_ rfl 41 _ rfl #[(0,.agg u0),(1,.agg u1),(2,.agg u2)] (by kernel_rfl) (.agg ct) (fe.o _) ?_)
       | ((with_reducible refine e_ (some 65) ?_);refine c6_ rfl 22 1 _ rfl #[(0,.agg ct)] (by kernel_rfl) (.slice (some ⟨V.heap.size,0,none⟩) 1 1) _ (s8_ ct fy.o V) ?_)
       | ((with_reducible refine e_ (some 66) ?_);refine k6_ gh_ rfl (.tmp 52) (.tmp 65) 22 rfl i0 _ Tryz.underlying22 g4.o g1.o fm.o f8.o rfl (by decide) rfl cy.o.own rfl rfl dn.o (λh=>by cases h) (by have:=ep.o;omega) (by decide) ?_;intro v1 y1 de dz du))
      have g6:=q_ (cy.o.app de dz du);clear de dz du cy e5 dn;go_wp2_with fail;go_roundw
      case rel=>exact⟨j+1,_,by have:=c4.o;omega,by go_num,rfl,q_ (by rw[f_ fx.o,List.map_append];exact g6.o)⟩
      case measure=>have:=c4.o;simp[intOf];omega
     ·have a2:¬(j:Int)<U:=by omega
      have fb:=q_ (show E.take j=E from List.take_of_length_le (by have C:E.length=U:=ah.o;omega));rw[fb.o]at J;clear a5;obtain⟨T,Z⟩:=a_ (E.map (d0_ y));rw[Z.o]at J;have e7:=q_ (show T.length=U from by rw[<-Z.o,List.length_map];exact ah.o);obtain⟨A5,c5,rfl,ga,eq⟩:∃A c,S = .slice A U c/\U<=c/\(A=none->c=0):=by obtain⟨A,c,e,h1,C⟩:=J.o.own.form;rw[e7.o]at e h1;exact⟨A,c,e,h1,C⟩
      have cc:=q_ (show ∀t,t∈T->OkT t from λt ht=>by
       rw[<-Z.o]at ht;obtain⟨N,af,rfl⟩:=List.mem_map.1 ht;exact (pz_ b7.o ((f5_ Y.o R.o).2.2.2 N af).1.1).1)
      have em:=q_ ((J.o.own.rd gh_ (F:=λb=>b<I.heap.size) (λb hb=>J.o.own.lt hb) e7.o).imp (R':=TrR) (λ_ h=>h) (λt c h=>fz_.trR h I _));have ag:=q_ (show Below w.heap.size w I from a8.o.trans (ai.o.mono a8.o.size));have ch:=q_ (me_ T cc.o (λb=>b<I.heap.size) A5 U c5 I (λ_ h=>h) em.o (by have:=ak.o;omega) (g_ HG.o ag.o) (p_ fn.o ag.o));have cw:=q_ ((ai.o.block z6 (b_ b6.o)).trans b6.o);have fq:=q_ (show ∀wz:World,Below I.heap.size I wz->x_ 41 18 TrR wz (λb=>w.heap.size<=b/\b<wz.heap.size) T (.slice A5 U c5) from λwz hz=>cg_.sownT (J.o.own.on hz) (λg hg=>⟨Nat.le_trans a8.o.size (J.o.ow g hg),Nat.lt_of_lt_of_le (J.o.own.lt hg) hz.size⟩))
      have fa:=q_ (show aw_ ⟨y,E⟩=none\/(T.length<=65536/\T.all dh_=true) from by
       by_cases h:T.length<=65536/\T.all dh_=true
       ·exact .inr h
       ·refine .inl ?_;unfold aw_;rw[if_neg];rintro⟨_,h1,C,_⟩;rw[Z.o]at h1 C;exact h ⟨h1,C⟩)
      have ev:=q_ (show ∀n,n∈y->(b7_ n).2=true from λn hn=>(b7.o n hn).1);unfold la_ at ch;clear hj ga eq;go_wp2_with fail;clear a2;refine ch.o.mono ?_;rintro e X (⟨ae,rfl,hb⟩ | ⟨h1,C,GN,GE,rfl,aa,hb⟩)
      ·have am:=q_ (show aw_ ⟨y,E⟩=none from fa.o.elim id (λh=>absurd h ae));have aw:=q_ (ag.o.trans (hb.mono ag.o.size));clear ae hb;obtain⟨a6,a3⟩:=a_ X.heap.size;obtain⟨wa,f⟩:=a_ (X.alloc (.cells #[.slice none 0 0,.slice none 0 0] 54));have M:=q_ (show Below X.heap.size X wa from by rw[<-f.o];exact (Below.refl _ _).alloc (Nat.le_refl _) _);have G:=q_ (show wa.heap[a6]?=some (.cells #[.slice none 0 0,.slice none 0 0] 54 (0,0)) from by rw[<-f.o,<-a3.o];exact heap_alloc_new X _);go_upto_region 21 with ((with_reducible refine y_ 15 ?_);rw[f.o,a3.o];refine m_ rfl 54 _ _ rfl a6 (#[.slice none 0 0,.slice none 0 0]) (#[.slice none 0 0,.slice none 0 0]) 54 rfl rfl G.o rfl (t_ _ _) (bf_ _ _ _ _ _ _) ?_;intro wh bn aq)
       have bj:=q_ (show Below w.heap.size w wh from aw.o.trans ((show Below X.heap.size X wh from j_ M.o aq (λb e=>by have e:b=a6:=e;have C:X.heap.size=a6:=a3.o;omega)).mono aw.o.size));clear bn aq f G M;go_wp2_with fail;go_ret2;exact⟨bj.o,.inr ⟨HM.o,_,R.o,.inl ⟨am.o,rfl⟩⟩⟩
      ·have bt:=q_ (And.intro h1 C);have ek:=q_ aa;obtain⟨N',E',e,⟨dj,d4,eN,_,_⟩,⟨dh,dr,eE,_,_⟩⟩:=aa;obtain⟨nN,fp⟩:=a_ (aj_ (bb_ (A_ (av_ 0)) T)).nodes.length;obtain⟨nE,g5⟩:=a_ (aj_ (bb_ (A_ (av_ 0)) T)).edges.length;rw[fp.o]at eN;rw[g5.o]at eE;subst eN;subst eE;injection e with e;have e3:=congrArg (λa:Array Value=>a[0]?) e;have e4:=congrArg (λa:Array Value=>a[1]?) e;simp at e3 e4;subst e3;subst e4;have aj:=q_ hb;have aw:=q_ (ag.o.trans (hb.mono ag.o.size));have bu:=q_ ((hb.block z6 (b_ cw.o)).trans cw.o);clear hb h1 C e;obtain⟨a6,a3⟩:=a_ X.heap.size;obtain⟨wa,f⟩:=a_ (X.alloc (.cells #[.slice none 0 0,.slice none 0 0] 54));have M:=q_ (show Below X.heap.size X wa from by rw[<-f.o];exact (Below.refl _ _).alloc (Nat.le_refl _) _);have G:=q_ (show wa.heap[a6]?=some (.cells #[.slice none 0 0,.slice none 0 0] 54 (0,0)) from by rw[<-f.o,<-a3.o];exact heap_alloc_new X _);go_upto_region 21 with ((with_reducible refine y_ 15 ?_);rw[f.o,a3.o];refine m_ rfl 54 _ _ rfl a6 (#[.slice none 0 0,.slice none 0 0]) (#[.slice dj nN d4,.slice dh nE dr]) 54 rfl rfl G.o rfl (t_ _ _) (bf_ _ _ _ _ _ _) ?_;intro wh bn aq)
       have a0:=q_ (show Below X.heap.size X wh from j_ M.o aq (λb e=>by have e:b=a6:=e;have C:X.heap.size=a6:=a3.o;omega));have bj:=q_ (aw.o.trans (a0.o.mono aw.o.size));have f6:=q_ bn;have el:=q_ ((a0.o.block z6 (b_ bu.o)).trans bu.o);have cm:=q_ (show Below x.heap.size x D from j_ O.o fv.o (λb h=>by have h1:=ap.o;have C:=O.o.size;rcases h with h | h<;>omega))
       have c6:=q_ (show Below x.heap.size x wh from cm.o.trans ((ai.o.trans ((aj.o.trans (a0.o.mono aj.o.size)).mono ai.o.size)).mono cm.o.size));have bo:=q_ (zn_ bt.o.1 bt.o.2 cc.o);have cg:=q_ (x2_ (aj_ (bb_ (A_ (av_ 0)) T)) ⟨y,E⟩ _ _ _ _ wh (λb h=>Nat.lt_of_lt_of_le h.2 a0.o.size) (λb h=>Nat.lt_of_lt_of_le h.2 c6.o.size) (ek.o.under a0.o (λb h=>h.2)) (dp.o.under c6.o (λb h=>h.2)) (r9_ bo.o).1 (r9_ bo.o).2);unfold z_ at cg;have bb:=q_ (show mh_ (aj_ (bb_ (A_ (av_ 0)) T)) ⟨y,E⟩=true↔aj_ (bb_ (A_ (av_ 0)) T)=⟨y,E⟩ from x1_ wl_)
       have d1:=q_ (show aj_ (bb_ (A_ (av_ 0)) T)=⟨y,E⟩->aw_ ⟨y,E⟩=some T from λh=>by
        unfold aw_;rw[if_pos ⟨ev.o,by rw[Z.o];exact bt.o.1,by rw[Z.o];exact bt.o.2,by rw[Z.o];exact h⟩,Z.o])
       have et:=q_ (show aj_ (bb_ (A_ (av_ 0)) T)≠⟨y,E⟩->aw_ ⟨y,E⟩=none from λh=>by
        unfold aw_;rw[if_neg];rintro⟨_,_,_,h1⟩;rw[Z.o]at h1;exact h h1)
       have ex:=q_ (Fj_ f6.o);have gb:=q_ (Fj_ el.o);obtain⟨q,Hq⟩:=a_ (mh_ (aj_ (bb_ (A_ (av_ 0)) T)) ⟨y,E⟩);rw[Hq.o]at cg bb;clear bn aq f G M
       go_wp2_with (first
        | ((with_reducible refine e_ (some 76) ?_);refine ag_ (by rfl) 54 _ rfl rfl (#[.slice dj nN d4,.slice dh nE dr]) _ ex.o Tryz.underlying54 rfl (t_ _ _) ?_)
        | ((with_reducible refine e_ (some 77) ?_);refine ag_ (by rfl) 54 _ rfl rfl (#[.slice A m1 c,.slice B U d]) _ gb.o Tryz.underlying54 rfl (t_ _ _) ?_))
       refine cg.o.mono ?_;rintro e wi ⟨rfl,hb⟩;have d7:=q_ (bj.o.trans (hb.mono bj.o.size));have ey:=q_ (aj.o.trans ((a0.o.trans (hb.mono a0.o.size)).mono aj.o.size));clear hb
       cases q with
       | true=>
        have fd:=q_ (d1.o (bb.o.1 rfl));go_wp2_with fail;go_ret2;exact⟨d7.o,.inr ⟨HM.o,_,R.o,.inr ⟨T,_,fd.o,rfl,fq.o wi ey.o⟩⟩⟩
       | false=>
        have fo:=q_ (et.o (λh=>by have C:=bb.o.2 h;cases C));go_wp2_with fail;go_ret2;exact⟨d7.o,.inr ⟨HM.o,_,R.o,.inl ⟨fo.o,rfl⟩⟩⟩
def wkO:h_:=.mk 2 false 5 ⟨#[]⟩ ⟨#[]⟩ []
def wkM:d_:=⟨nk_ ⟨#[97]⟩,nk_ ⟨#[112]⟩,wkO⟩
theorem tw_:∀t,t∈[wkM]->OkT t:=λt b=>by
 rw[List.mem_singleton.1 b];exact⟨⟨by decide,by decide,by decide⟩,⟨by decide,by decide,by decide⟩,⟨by decide,by decide,by decide⟩⟩
theorem tx_:[wkM].all dh_=true:=by decide
theorem wm_:ce_ wkM:=dg_ (List.all_eq_true.1 tx_ wkM (List.mem_singleton.2 rfl)) (tw_ wkM (List.mem_singleton.2 rfl))
theorem wn_:bb_ (A_ (av_ 0)) [wkM]=[wkM]:=by have h:=ek_ (be_ (av_ 0)) (l:=[wkM]) (λa c b hb _=>by rw[List.mem_singleton.1 c,List.mem_singleton.1 hb]);exact in_ (be_ _) h.1 (List.pairwise_singleton _ _) h.2
theorem f9_:ae_ [wkM]:=by have h:=zn_ (L:=[wkM]) (by decide) tx_ tw_;rwa [wn_]at h
theorem Gv_:(J_ [wkM]).length=2:=by
 have h1:(J_ [wkM]).length<=2:=g8_ G_ (dn_ [wkM]);have b:=f9_.mem wkM (List.mem_singleton.2 rfl)
 have c:wkM.s≠wkM.o:=by
  intro e;have:=congrArg h_.kind e;revert this
  decide
 have d:2<=(J_ [wkM]).length:=by
  match hv:J_ [wkM],b with
  | [],b=>exact absurd b.1 (by simp)
  | [a],b=>exact absurd ((List.mem_singleton.1 b.1).trans (List.mem_singleton.1 b.2).symm) c
  | _::_::_,_=>simp
 omega
theorem Co_:(aj_ [wkM]).nodes.length=2:=by show ((J_ [wkM]).mapIdx (λi v=>E_ ((i:Nat):Int) v)).length=2;rw[List.length_mapIdx,Gv_]
theorem Cp_:∃a b,(aj_ [wkM]).edges=[⟨0,a,b,⟨#[112]⟩,[]⟩]:=⟨_,_,rfl⟩
theorem K8_ (W:World):(Instr.build 39 #[(0,.int .i64 2),(2,.int .i64 5)]).run Tryz.prog W = .ok (.agg (c_ wkO (.slice none 0 0))) W:=by kernel_rfl
theorem K9_ (W:World):(Instr.build 41 #[(0,.agg (c_ (irV ⟨#[97]⟩) (.slice none 0 0))),(1,.agg (c_ (irV ⟨#[112]⟩) (.slice none 0 0))),(2,.agg (c_ wkO (.slice none 0 0)))]).run Tryz.prog W = .ok (.agg (L_ wkM s6_)) W:=Fe_ wkM W
theorem yn_ (w:World) (a4:M_ w) (a9:bc_ w):Calls Tryz.prog 24 #[] w (z_ true w):=by
 have HG:=q_ (And.intro a4 a9);clear a4 a9;obtain⟨ua,Ha⟩:=F_ (irV ⟨#[97]⟩) (.slice none 0 0);obtain⟨up,Hp⟩:=F_ (irV ⟨#[112]⟩) (.slice none 0 0);obtain⟨uo,Ho⟩:=F_ wkO (.slice none 0 0);obtain⟨l,J⟩:=bn_ wkM s6_;have ap:=q_ (λW:World=>(show (Instr.build 41 #[(0,.agg ua),(1,.agg up),(2,.agg uo)]).run Tryz.prog W = .ok (.agg l) W from by rw[<-Ha.o,<-Hp.o,<-Ho.o,<-J.o];exact K9_ W));have ao:=q_ (λW:World=>(show (Instr.build 39 #[(0,.int .i64 2),(2,.int .i64 5)]).run Tryz.prog W = .ok (.agg uo) W from by rw[<-Ho.o];exact K8_ W));have ZR:=q_ J.size;have ar:=q_ (show fz_ l wkM from ⟨ta_ wm_ (λn=>((tw_ wkM (List.mem_singleton.2 rfl)).get n).fit),s6_,λi _=>⟨none,0,rfl⟩,J.o.symm⟩);clear J;go_enter Tryz.func24,Tryz.ntmps24
 go_wp2_with fail;refine (vb_ _ _).mono ?_;unfold s3_;rintro e w1 ⟨rfl,hb⟩;have ag:=q_ hb;clear hb;rw[Ha.o];go_wp2_with fail;refine (vb_ _ _).mono ?_;unfold s3_;rintro e w2 ⟨rfl,hb⟩;have X:=q_ (ag.o.trans (hb.mono ag.o.size));clear hb;rw[Hp.o];obtain⟨d,A⟩:=a_ w2.heap.size;obtain⟨j,u⟩:=a_ (w2.alloc (.cells l 41));have B:=q_ (show Below w.heap.size w j from by rw[<-u.o];exact X.o.alloc X.o.size _);have am:=q_ (show (Instr.buildSlice 22 1 #[(0,.agg l)]).run Tryz.prog w2 = .ok (.slice (some ⟨d,0,none⟩) 1 1) j from by rw[<-A.o,<-u.o];exact s8_ l ZR.o w2)
 have M:=q_ (show d<j.heap.size/\w.heap.size<=d from ⟨by
  have h:j.heap[d]?=some (.cells l 41 (0,0)):=by rw[<-u.o,<-A.o];exact heap_alloc_new w2 _
  exact b_ h,by rw[<-A.o];exact X.o.size⟩)
 have a0:=q_ (show SRd 18 TrR j (λb=>b=d) [wkM] (some ⟨d,0,none⟩) 1 from by have h:=(E8_ gh_ ar.o w2 41).imp (R':=TrR) (λ_ h=>h) (λt c h=>fz_.trR h _ _);rw[<-u.o,<-A.o];exact h);clear u A
 go_wp2_with (first
  | ((with_reducible refine e_ (some 8) ?_);refine N_ rfl 39 _ rfl #[(0,.int .i64 2),(2,.int .i64 5)] (by kernel_rfl) (.agg uo) (ao.o _) ?_)
  | ((with_reducible refine e_ (some 9) ?_);refine N_ rfl 41 _ rfl #[(0,.agg ua),(1,.agg up),(2,.agg uo)] (by kernel_rfl) (.agg l) (ap.o _) ?_)
  | ((with_reducible refine e_ (some 10) ?_);refine Ff_ rfl 22 1 _ rfl #[(0,.agg l)] (by kernel_rfl) (.slice (some ⟨d,0,none⟩) 1 1) j am.o ?_))
 refine (me_ [wkM] tw_ (λb=>b=d) (some ⟨d,0,none⟩) 1 1 j (λg hg=>by have hg:g=d:=hg;rw[hg];exact M.o.1) a0.o (by omega) (g_ HG.o.1 B.o) (p_ HG.o.2 B.o)).mono ?_;unfold la_;rintro e k (⟨av,_⟩ | ⟨_,_,GN,GE,rfl,V,hb⟩)
 ·exact absurd ⟨by decide,tx_⟩ av
 rw[wn_]at V;have ae:=q_ V;obtain⟨N',E',e,⟨AN,cN,eN,_,_⟩,⟨AE,cE,eE,_,hE⟩⟩:=V;rw[Co_]at eN;subst eN;subst eE;injection e with e;have e3:=congrArg (λa:Array Value=>a[0]?) e;have e4:=congrArg (λa:Array Value=>a[1]?) e;simp at e3 e4;subst e3;subst e4;have a6:=q_ hb;have a7:=q_ (B.o.trans (hb.mono B.o.size));clear hb e;obtain⟨y,N⟩:=a_ k.heap.size;obtain⟨wa,I⟩:=a_ (k.alloc (.cells #[.slice none 0 0,.slice none 0 0] 54));have a8:=q_ (show Below k.heap.size k wa from by rw[<-I.o];exact (Below.refl _ _).alloc (Nat.le_refl _) _);have aj:=q_ (show wa.heap[y]?=some (.cells #[.slice none 0 0,.slice none 0 0] 54 (0,0)) from by rw[<-I.o,<-N.o];exact heap_alloc_new k _);obtain⟨a,b,O⟩:=Cp_;obtain⟨nE,E⟩:=a_ (aj_ [wkM]).edges.length;have Y:=q_ (show nE=1 from by rw[<-E.o,O];rfl);have az:=hE.at_ (i:=0) (x:=⟨0,a,b,⟨#[112]⟩,[]⟩) (by rw[O];rfl);rw[E.o,Y.o]at ae;rw[E.o,Y.o];obtain⟨ad,ce,rfl,ac,ak,a3,a2⟩:=az;have aq:=q_ ac;have au:=q_ (show k.cell? (ad.add (0*5+3))=some (.string ⟨#[112]⟩) from by rw[a3 3 (by omega)];obtain⟨_,e,_⟩:=a2;rw[e];rfl);clear hE O ac ak a3 a2 E Y;go_upto_region 3 with ((with_reducible refine y_ 2 ?_);rw[I.o,N.o];refine m_ rfl 54 _ _ rfl y (#[.slice none 0 0,.slice none 0 0]) (#[.slice AN 2 cN,.slice (some ad) 1 cE]) 54 rfl rfl aj.o rfl (t_ _ _) (bf_ _ _ _ _ _ _) ?_;intro wh ah a5)
 have f:=q_ (show Below k.heap.size k wh from j_ a8.o a5 (λb e=>by have e:b=y:=e;have h2:k.heap.size=y:=N.o;omega));have D:=q_ (a7.o.trans (f.o.mono a7.o.size));have S:=q_ ah;clear ah a5 I aj a8;go_wp2_with ((with_reducible refine e_ (some 17) ?_);refine w_ rfl 54 _ rfl y 0 rfl (#[.slice AN 2 cN,.slice (some ad) 1 cE]) _ (k_ S.o) Tryz.underlying54 rfl (t_ _ _) ?_)
 refine (lj_ (aj_ [wkM]) f9_.fit (λb=>j.heap.size<=b/\b<k.heap.size) _ wh (λb h=>Nat.lt_of_lt_of_le h.2 f.o.size) (ae.o.under f.o (λb h=>h.2)) f9_.num (g_ HG.o.1 D.o) (p_ HG.o.2 D.o)).mono ?_;unfold mk_;rintro e z ⟨hb,C⟩
 obtain⟨s,rfl,Z⟩:∃s,e = .returned (.tuple #[s,.int .i64 0])/\x_ 41 18 TrR z (λb=>wh.heap.size<=b/\b<z.heap.size) [wkM] s:=by
  rcases C with⟨h,_⟩ | ⟨_,G,hp,C⟩
  ·rw[f9_.graph]at h
   cases h
  ·have he:=f9_.plain hp;subst he;rcases C with⟨h,_⟩ | ⟨T,s,hT,e,ho⟩
   ·rw[f9_.back]at h
    cases h
   ·rw[f9_.back]at hT;injection hT with hT;subst hT;exact⟨s,e,ho⟩
 obtain⟨As,cs,es,_,a1⟩:=Z.rd TrR.good;have es:s = .slice As 1 cs:=es;subst es;have ab:=q_ (D.o.trans (hb.mono D.o.size));have U:=q_ (f.o.trans (hb.mono f.o.size));have ay:=q_ (show SRd 18 TrR z (λb=>wh.heap.size<=b/\b<z.heap.size) [wkM] As 1 from a1);have aa:=q_ ((hb.block y (b_ S.o)).trans S.o);have x0:z.cell? ⟨y,0,none⟩=some (.slice AN 2 cN):=cell_of_heap aa.o 0;have x1:z.cell? ⟨y,1,none⟩=some (.slice (some ad) 1 cE):=cell_of_heap aa.o 1;have x3:z.cell? ⟨ad.block,ad.off+3,none⟩=some (.string ⟨#[112]⟩):=by have h:=(U.o.cell (p:=ad.add (0*5+3)) (by rw[bu_];exact aq.o.2)).trans au.o;exact h
 have ai:=q_ (show Below j.heap.size j z from a6.o.trans (U.o.mono a6.o.size));have R:=Fo_ (ca:=cs) (cb:=1) ay.o (a0.o.under TrR.good ai.o (λb h=>by have h:b=d:=h;rw[h];exact M.o.1)) (λb h=>h.2) (λb h=>by have h:b=d:=h;rw[h];exact Nat.lt_of_lt_of_le M.o.1 ai.o.size) (by omega) (λt ht i=>by rw[List.mem_singleton.1 ht,g6_ (wm_.get i)];decide);rw[j9_.2 rfl]at R;have af:=q_ R;unfold z_ at af;clear R hb C Z a1;go_wp2_with fail;refine af.o.mono ?_;rintro e w8 ⟨rfl,hb⟩;have aw:=q_ (ab.o.trans (hb.mono ab.o.size));clear hb;go_wp2_with fail;go_ret;exact⟨rfl,aw.o⟩
end
end Go.Proofs.YtefhfadjajcmkaaGreatDoor
