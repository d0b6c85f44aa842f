/- 'Hops': the numbers of the edges that lead from a node in a direction. -/
import Derived.Test.YtefhfadjajcmkaaGreatDoorJI
set_option linter.unusedVariables false
set_option linter.unusedSimpArgs false
set_option maxRecDepth 100000
set_option maxHeartbeats 64000000
namespace Go.Proofs.YtefhfadjajcmkaaGreatDoor
open Go.Lib (cell_of_heap)
section
open Go Go.RowKit Go.Maps Go.WideMaps
def Y_ {α K:Type} (ok:List K -> α -> Bool) (key:α -> K):List K->List α -> Bool
 | _,[]=>true
 | ks,x::r=>ok ks x&&Y_ ok key (ks++[key x]) r
section
variable {α K:Type} {ok:List K -> α -> Bool} {key:α -> K}
theorem Ca_ (l:List α):∀(k:Nat) (ks:List K),Y_ ok key ks l=(Y_ ok key ks (l.take k)&&Y_ ok key (ks++(l.take k).map key) (l.drop k)):=by
 induction l with
 | nil=>intro k ks;simp[Y_]
 | cons p r a=>
  intro k ks
  cases k with
  | zero=>simp[Y_]
  | succ k=>
   simp only[List.take_succ_cons,List.drop_succ_cons,Y_,List.map_cons];rw[a k (ks++[key p])];simp only[Bool.and_assoc,List.append_assoc,List.singleton_append]
theorem Cb_ (l:List α) (p:α):∀ks:List K,Y_ ok key ks (l++[p])=(Y_ ok key ks l&&ok (ks++l.map key) p):=by
 induction l with
 | nil=>intro ks;simp[Y_]
 | cons q r a=>
  intro ks;simp only[List.cons_append,Y_,List.map_cons,a,Bool.and_assoc,List.append_assoc];simp
theorem ti_ {l:List α} {k:Nat} {x:α} (a:l[k]?=some x) (h:ok ((l.take k).map key) x=false):Y_ ok key [] l=false:=by rw[Ca_ l k [],ly_ a,Y_,List.nil_append,h];simp
theorem v7_ {l:List α} {k:Nat} {x:α} (a:l[k]?=some x) (h:ok ((l.take k).map key) x=true) (b:Y_ ok key [] (l.take k)=true):Y_ ok key [] (l.take (k+1))=true:=by rw[g_ a,Cb_,b,List.nil_append,h];rfl
theorem v8_ {l:List α} (h:Y_ ok key [] l=true) {k:Nat} {x:α} (a:l[k]?=some x):ok ((l.take k).map key) x=true:=by
 cases hok:ok ((l.take k).map key) x with
 | true=>rfl
 | false=>rw[ti_ a hok]at h;cases h
end
def okN (ids:List Int) (n:i_):Bool:=decide (0<=n.id)&&(!inB ids n.id&&(be_ [] n.labels&&(decide (n.labels.length<=65536)&&a0_ n.props)))
def okE (a:List Int) (ids:List Int) (e:m_):Bool:=decide (0<=e.id)&&(!inB ids e.id&&(inB a e.src&&(inB a e.dst&&(aw_ e.type&&a0_ e.props))))
def cw_ (g:y_):Bool:=decide (g.nodes.length<=131072/\g.edges.length<=65536)&&(Y_ okN i_.id [] g.nodes&&Y_ (okE (g.nodes.map i_.id)) m_.id [] g.edges)
def bm_ {α a : Type} (R:α -> a -> Prop) (l:List α) (m:List a):Prop:=l.length=m.length/\∀(i:Nat) (x:α) (y:a),l[i]?=some x->m[i]?=some y->R x y
theorem bm_.nil {α a : Type} (R:α -> a -> Prop):bm_ R ([]:List α) []:=⟨rfl,λi x y h=>by simp at h⟩
theorem bm_.snoc {α d : Type} {R:α -> d -> Prop} {l:List α} {m:List d} {x:α} {y:d} (h:bm_ R l m) (e:R x y):bm_ R (l++[x]) (m++[y]):=by
 refine⟨by simp[h.1],λi a b c hb=>?_⟩;rcases Nat.lt_or_ge i l.length with hi | hi
 ·rw[List.getElem?_append_left hi]at c;rw[List.getElem?_append_left (by rw[<-h.1];exact hi)]at hb;exact h.2 i a b c hb
 ·rw[List.getElem?_append_right hi]at c;rw[List.getElem?_append_right (by rw[<-h.1];exact hi),<-h.1]at hb;have h0:i-l.length=0:=by have:=by_ c;simp at this;omega
  rw[h0]at c hb;simp at c hb;subst c hb;exact e
def L9_ (l c:List i_):Prop:=∃m,bm_ ij_ l m/\c.Perm m/\c.Pairwise (λa b=>¬dk_ b.id a.id<0)
def Ma_ (l c:List m_):Prop:=∃m,bm_ jg_ l m/\c.Perm m/\c.Pairwise (λa b=>¬dk_ b.id a.id<0)
def g4_ (g a:y_):Prop:=L9_ g.nodes a.nodes/\Ma_ g.edges a.edges
def m6_ (e:m_) (a d:Int):Bool:=(d==1&&e.src==a) || ((d == -1&&e.dst==a) || (d==0&&(e.src==a || e.dst==a)))
def aj_ (es:List m_) (a d:Int):List Nat:=(List.range es.length).filter λi=>(es[i]?.map λe=>m6_ e a d).getD false
theorem rn_ (es:List m_) (e:m_) (a d:Int):aj_ (es++[e]) a d=aj_ es a d++(if m6_ e a d then [es.length] else []):=by
 unfold aj_;rw[List.length_append,List.length_singleton,List.range_succ,List.filter_append];congr 1
 ·apply List.filter_congr;intro i hi;rw[List.getElem?_append_left (List.mem_range.1 hi)]
 ·simp[List.filter_cons]
def an_ (w:World) (m:Nat) (ids:List Int):Prop:=∃D:DataW Unit,w.ownsMap Tryz.prog 2 (plainElem Tryz.prog 3) m ids.length D/\IdsOf VI hu_ D ids
theorem an_.turn {w w':World} {m:Nat} {ids:List Int} {S:Nat->Prop} (h:an_ w m ids) (ht:Turn S w w') (a:¬S m):an_ w' m ids:=by obtain⟨D,h1,h2⟩:=h;exact⟨D,ht.map h1 a,h2⟩
theorem an_.lt {w:World} {m:Nat} {ids:List Int} (h:an_ w m ids):m<w.heap.size:=by obtain⟨D,⟨es,a,hb,_⟩,_⟩:=h;exact b_ hb
structure cj_ (w:World) (lo p:Nat) (g:y_) (Ns Es:Value) (mh mt ma mid n:Nat):Prop where
 blk:w.heap[p]?=some (.cells #[Ns,Es,.map (some mh),.map (some mt),.map (some ma)] 143 (0,0))
 nodes:SlR 3 NoR w (λb=>lo<=b/\b<mid) g.nodes Ns
 edges:SlR 5 EdR w (λb=>lo<=b/\b<mid) g.edges Es
 types:an_ w mt (g.edges.map m_.id)
 at_:an_ w ma (g.nodes.map i_.id)
 hops:dg_ w mid mh n (aj_ g.edges)
 loc:lo<=p/\lo<=mh/\lo<=mt/\lo<=ma/\mid<=w.heap.size/\mh<mid
 few:n<=1000000
def dy_ (w:World) (lo p:Nat) (g:y_):Prop:=∃Ns Es a c b mid n,cj_ w lo p g Ns Es a c b mid n
theorem cj_.turn {w w':World} {lo p:Nat} {g:y_} {Ns Es:Value} {d e f mid n:Nat} {S:Nat->Prop} (h:cj_ w lo p g Ns Es d e f mid n) (ht:Turn S w w') (a:∀b,lo<=b->b<w.heap.size->¬S b):cj_ w' lo p g Ns Es d e f mid n:=by
 have o:=b_ h.blk;obtain⟨r,s,q,m,y,u⟩:=h.loc;have v:=h.hops
 refine⟨(ht.block p o (a p r o)).trans h.blk,h.nodes.turn NoR.good ht (λb hb=>by omega) (λb hb=>a b hb.1 (by omega)),h.edges.turn EdR.good ht (λb hb=>by omega) (λb hb=>a b hb.1 (by omega)),
  h.types.turn ht (a e q h.types.lt),h.at_.turn ht (a f m h.at_.lt),?_,⟨r,s,q,m,Nat.le_trans y ht.size,u⟩,h.few⟩
 have j:Turn (λb=>S b/\b<w.heap.size) w w':=⟨ht.os,ht.tape,ht.output,ht.size,λi hi t=>ht.block i hi (λx=>t ⟨x,hi⟩)⟩;exact v.turn j (λc=>a d s c.2 c.1) (λb hb c=>a b (by omega) c.2 c.1)
theorem dy_.turn {w w':World} {lo p:Nat} {g:y_} {S:Nat->Prop} (h:dy_ w lo p g) (ht:Turn S w w') (c:∀b,lo<=b->b<w.heap.size->¬S b):dy_ w' lo p g:=by obtain⟨Ns,Es,a,e,d,mid,n,h⟩:=h;exact⟨Ns,Es,a,e,d,mid,n,h.turn ht c⟩
theorem dy_.below {w w':World} {lo p:Nat} {g:y_} (h:dy_ w lo p g) (hb:Below w.heap.size w w'):dy_ w' lo p g:=h.turn (Turn.of_below hb) (λb _ h1 h2=>by omega)
def m7_ (g:y_):Prop:=g.nodes.length<=2000000/\g.edges.length<=2000000/\(∀n,n∈g.nodes->qi_ n/\VI n.id)/\∀e,e∈g.edges->L8_ e/\VI e.id/\VI e.src/\VI e.dst
def ic_ (g:y_) (w:World) (e:Ending) (w':World):Prop:=
 Below w.heap.size w w'/\((cw_ g=false/\e = .returned (.tuple #[.pointer none,.int .i64 21])) \/
  (cw_ g=true/\∃p a,e = .returned (.tuple #[.pointer (some ⟨p,0,none⟩),.int .i64 0])/\dy_ w' w.heap.size p a/\g4_ g a))
end
section
open Go Go.RowKit Go.Maps Go.WideMaps Go.MapKept
theorem v9_:(Tryz.prog.info? 72).map (λi=>(i.zero,i.size,i.bytes))=some (some (.agg #[.int .i64 0,.slice none 0 0,.slice none 0 0]),3,56):=by kernel_rfl
theorem wa_:(Tryz.prog.info? 74).map (λi=>(i.zero,i.size,i.bytes))=some (some (.agg #[.int .i64 0,.int .i64 0,.int .i64 0,.string ⟨#[]⟩,.slice none 0 0]),5,64):=by kernel_rfl
theorem tj_ {w:World} {F:Nat->Prop} {l:List i_} {A:Option Addr} {n:Nat} (h:SRd 3 NoR w F l A n) {i:Nat} {x:i_} (q:l[i]?=some x) :
    ∃ad b f a d,A=some ad/\F ad.block/\NoR w F x #[.int .i64 x.id,.slice b x.labels.length f,.slice a x.props.length d]/\SRd 1 TxR w F x.labels b x.labels.length/\SRd 7 PaR w F x.props a x.props.length/\w.cell? (ad.add (i*3))=some (.int .i64 x.id) /\
     w.cell? ⟨(ad.add (i*3)).block,(ad.add (i*3)).off+1,none⟩=some (.slice b x.labels.length f)/\w.cell? ⟨(ad.add (i*3)).block,(ad.add (i*3)).off+2,none⟩=some (.slice a x.props.length d):=by
 obtain⟨ad,c,e,r,_,g,L,P,rfl,⟨b,f,rfl,h1,h2⟩,a,d,rfl,p,o⟩:=h.at_ q;have s:=g 0 (by omega);have j:=g 1 (by omega);have m:=g 2 (by omega);rw[<-add_of_add]at j m;exact⟨ad,b,f,a,d,e,r,⟨_,_,rfl,⟨b,f,rfl,h1,h2⟩,a,d,rfl,p,o⟩,h2,o,s,j,m⟩
theorem nh_ {w:World} {F:Nat->Prop} {l:List m_} {A:Option Addr} {n:Nat} (h:SRd 5 EdR w F l A n) {i:Nat} {x:m_} (q:l[i]?=some x) :
    ∃ad a b,A=some ad/\F ad.block/\EdR w F x #[.int .i64 x.id,.int .i64 x.src,.int .i64 x.dst,.string x.type,.slice a x.props.length b]/\SRd 7 PaR w F x.props a x.props.length/\w.cell? (ad.add (i*5))=some (.int .i64 x.id) /\
     w.cell? ⟨(ad.add (i*5)).block,(ad.add (i*5)).off+1,none⟩=some (.int .i64 x.src)/\w.cell? ⟨(ad.add (i*5)).block,(ad.add (i*5)).off+2,none⟩=some (.int .i64 x.dst) /\
     w.cell? ⟨(ad.add (i*5)).block,(ad.add (i*5)).off+3,none⟩=some (.string x.type)/\w.cell? ⟨(ad.add (i*5)).block,(ad.add (i*5)).off+4,none⟩=some (.slice a x.props.length b):=by
 obtain⟨ad,c,e,r,_,d,P,rfl,a,b,rfl,p,m⟩:=h.at_ q;have s:=d 0 (by omega);have f:=d 1 (by omega);have g:=d 2 (by omega);have j:=d 3 (by omega);have o:=d 4 (by omega);rw[<-add_of_add]at f g j o;exact⟨ad,a,b,e,r,⟨_,rfl,a,b,rfl,p,m⟩,m,s,f,g,j,o⟩
structure fn_ (w:World) (z:Nat) (NV EV:Value) (l:List i_) (ids:List Int) (k:Nat) (ns:List i_) (Ns:Value) (wr:World):Prop where
 below:Below z w wr
 box:wr.heap[z]?=some (.cells #[NV,EV] 54 (0,0))
 m1:wr.heap[z+1]?=some (.map #[] 0)
 m2:wr.heap[z+2]?=some (.map #[] 0)
 m3:wr.heap[z+3]?=some (.map #[] 0)
 store:wr.heap[z+4]?=some (.cells #[Ns,.slice none 0 0,.map (some (z+1)),.map (some (z+2)),.map (some (z+3))] 143 (0,0))
 set:ax_ 2 VI hu_ wr (z+5) ids
 own:B_ 72 3 NoR wr (λb=>z+6<=b/\b<wr.heap.size) ns Ns
 all:bm_ ij_ (l.take k) ns
 ok:Y_ okN i_.id [] (l.take k)=true
theorem fn_.on {w:World} {z:Nat} {d c:Value} {l:List i_} {ids:List Int} {k:Nat} {e:List i_} {Ns:Value} {wr w2:World} (h:fn_ w z d c l ids k e Ns wr) (hb:Below wr.heap.size wr w2):fn_ w z d c l ids k e Ns w2:=by
 have hz:z+5<wr.heap.size:=h.set.lt
 exact⟨h.below.trans (hb.mono (by omega)),(hb.block _ (by omega)).trans h.box,(hb.block _ (by omega)).trans h.m1,(hb.block _ (by omega)).trans h.m2,(hb.block _ (by omega)).trans h.m3,(hb.block _ (by omega)).trans h.store,h.set.below hb,
  (h.own.turn NoR.good (Turn.of_below hb) (λb hb=>hb.2) (λb hb h=>by omega)).mono NoR.good (λb a=>⟨a.1,Nat.lt_of_lt_of_le a.2 hb.size⟩),h.all,h.ok⟩
theorem fn_.put {w:World} {z:Nat} {d e:Value} {l:List i_} {ids ids':List Int} {k:Nat} {c:List i_} {Ns:Value} {wr w2:World} (h:fn_ w z d e l ids k c Ns wr) (ht:Turn (λb=>b=z+5) wr w2) (f:ax_ 2 VI hu_ w2 (z+5) ids'):fn_ w z d e l ids' k c Ns w2:=by
 have hz:z+5<wr.heap.size:=h.set.lt
 exact⟨h.below.trans (ht.below (B:=z) (λi _ hi=>by omega) (by omega)),(ht.block _ (by omega) (by omega)).trans h.box,(ht.block _ (by omega) (by omega)).trans h.m1,(ht.block _ (by omega) (by omega)).trans h.m2,(ht.block _ (by omega) (by omega)).trans h.m3,(ht.block _ (by omega) (by omega)).trans h.store,f,
  (h.own.turn NoR.good ht (λb hb=>hb.2) (λb hb h=>by omega)).mono NoR.good (λb a=>⟨a.1,Nat.lt_of_lt_of_le a.2 ht.size⟩),h.all,h.ok⟩
theorem Le_ {g:y_} (h:Y_ okN i_.id [] g.nodes=false):cw_ g=false:=by unfold cw_;rw[h];simp
theorem kj_ {v:h_} (h:a4_ v=true):v.list=[]:=by
 unfold a4_ at h;rw[Bool.and_eq_true]at h;obtain⟨h1,h2⟩:=h;obtain⟨k,b,n,t,x,l⟩:=v;simp only[h_.kind,Bool.or_eq_true,beq_iff_eq]at h2;simp only[h_.list];have c:k≠5:=by rcases h2 with h | h | h | h<;>omega
 unfold I_ at h1
 have a:∀{d:Bool} {n':Int} {t' x':ByteArray},a9_ k b n t x l d n' t' x'=true->l=[]:=λh=>by
  unfold a9_ at h;simp only[Bool.and_eq_true,Bool.or_eq_true,decide_eq_true_eq]at h;rcases h.2.2.2.2 with h | h
  ·exact List.eq_nil_of_length_eq_zero h
  ·exact absurd h c
 rcases h2 with rfl | rfl | rfl | rfl
 ·simp at h1;exact a h1
 ·simp at h1;exact a h1
 ·simp at h1;exact a h1.2
 ·simp at h1;exact a h1.2
theorem wb_ {v:h_} (h:bg_ v=true):∀x,x∈v.list->x.list=[]:=by
 unfold bg_ at h;by_cases b:v.kind=5
 ·rw[if_pos b,Bool.and_eq_true,List.all_eq_true]at h;exact λx a=>kj_ (h.2 x a)
 ·rw[if_neg b]at h;rw[kj_ h];intro x a;cases a
theorem wc_ {l:List C_}:∀{ks:List ByteArray},az_ ks l=true->∀p,p∈l->v1_ p:=by
 induction l with
 | nil=>intro ks _ p a;cases a
 | cons q r b=>
  intro ks h p a;simp only[az_,Bool.and_eq_true]at h;rcases List.mem_cons.1 a with rfl | a
  ·exact wb_ h.1.2.2
  ·exact b h.2 p a
theorem fo_ {l:List C_} (h:a0_ l=true):∀p,p∈l->v1_ p:=by unfold a0_ at h;rw[Bool.and_eq_true]at h;exact wc_ h.1
theorem Jf_ (w:World) (c b f a e d:Obj):(((((((w.alloc c).alloc b).alloc f).alloc a).alloc e).alloc d).heap=w.heap++#[c,b,f,a,e,d]):=by simp only[Go.Sort.alloc_eq_grow,Go.Sort.grow_grow];rfl
theorem gq_ {h:Array Obj} {os:Array Obj} {z i:Nat} {o:Obj} (hz:h.size=z) (a:os[i]?=some o):(h++os)[z+i]?=some o:=by subst hz;rw[Array.getElem?_append_right (Nat.le_add_right _ _),Nat.add_sub_cancel_left];exact a
theorem Cc_ (w:World) (b a c:Obj):(((w.alloc b).alloc a).alloc c).heap=w.heap++#[b,a,c]:=by simp only[Go.Sort.alloc_eq_grow,Go.Sort.grow_grow];rfl
theorem Jg_ {K:Type} [DecidableEq K] {b:TypeId} {V:K->Prop} {a:K->Lit} {w:World} {m:Nat} (h:w.heap[m]?=some (.map #[] 0)):ax_ b V a w m ([]:List K):=
 ⟨.map [],⟨#[],0,h,⟨by simp,stamped_empty 0,by simp⟩,Nat.le_refl _,rfl⟩,λ_ _=>rfl⟩
theorem Gp_ {w w':World} {z:Nat} (h:F_ w) (hz:w.heap.size=z) (hb:Below z w w'):F_ w':=f_ h (by rw[hz];exact hb)
theorem fn_.more {w:World} {z:Nat} {T N:Value} {l:List i_} {ids:List Int} {k:Nat} {t:List i_} {m:Option Addr} {j:Nat} {w5 w6 f:World} {cs:Nat->Array Value} {x n':i_} {c:Array Value} {d r:Nat}
    (h:fn_ w z T N l ids k t (.slice m k j) w5) (u:t.length=k) (o:∀b,(Value.slice m k j).ownBlock=some b->z+6<=b/\b<w5.heap.size) (P:∀i,i<k->(cs i).size=3) (X:∀i x,t[i]?=some x->NoR w5 (λb=>(z+6<=b/\b<w5.heap.size)/\(Value.slice m k j).ownBlock≠some b) x (cs i))
    (a:l[k]?=some x) (v:Below w5.heap.size w5 w6) (J:ij_ x n') (O:NoR w6 (λb=>w5.heap.size<=b/\b<w6.heap.size) n' c) (U:c.size=3) (A:w6.grownBy f (Value.slice m k j).ownBlock) (D:(Value.slice m k j).ownBlock=some d\/d=w6.heap.size+1)
    (S:f.ownsRow 0 72 3 (.slice (some ⟨d,0,none⟩) (k+1) r) (k+1) (N_ cs k++c.toList)) (M:Y_ okN i_.id [] (l.take (k+1))=true) :
    fn_ w z T N l ids (k+1) (t++[n']) (.slice (some ⟨d,0,none⟩) (k+1) r) (f.setCell ⟨z+4,0,none⟩ (.slice (some ⟨d,0,none⟩) (k+1) r)):=by
 have hz:z+5<w5.heap.size:=h.set.lt;have Z:w5.heap.size<=w6.heap.size:=v.size;have Y:w6.heap.size<=f.heap.size:=A.size;have a0:d<f.heap.size:=(S.lt d rfl).2;have q:=h.on v
 have C:=hv_ (w5:=w6) (w6:=f) (R:=NoR) (E:=72) (sz:=3) (F:=λb=>z+6<=b/\b<w5.heap.size) (G:=λb=>w5.heap.size<=b/\b<w6.heap.size) (l:=t) (x:=n') (s:=.slice m k j) (c:=c) (g4:=d) (c4:=r) (cs:=cs) NoR.good
  (λi hi=>P i (by omega)) (λi y W=>NoR.good.keep (X i y W) (λp V=>v.cell (by have:=V.1.2;omega))) O U (λb hb e=>by have:=(o b e).2;have:=hb.1;omega) (λb hb=>by have:=hb.2;omega) (λb hb=>hb.2) (by rw[u];exact S) A (by rcases D with e | e;exact .inl e;exact .inr (by omega))
 rw[u]at C
 have I:Turn (λb=>some b=(Value.slice m k j).ownBlock\/b=z+4) w6 (f.setCell ⟨z+4,0,none⟩ (.slice (some ⟨d,0,none⟩) (k+1) r)):=
  ((Turn.of_grown A).mono (λb _ hb=>.inl hb)).trans (((Turn.refl (λb=>b=z+4) f).setCell (p:=⟨z+4,0,none⟩) (.inr rfl) _).mono (λb _ hb=>.inr hb))
 have g:∀b,b<z+6->b≠z+4->(f.setCell ⟨z+4,0,none⟩ (.slice (some ⟨d,0,none⟩) (k+1) r)).heap[b]?=w6.heap[b]?:=λb hb L=>I.block b (by omega) (λa=>by
  rcases a with a | a
  ·have:=(o b a.symm).1;omega
  ·exact L a)
 refine⟨q.below.trans (I.below (B:=z) (λi _ hi=>?_) (by omega)),(g _ (by omega) (by omega)).trans q.box,(g _ (by omega) (by omega)).trans q.m1,(g _ (by omega) (by omega)).trans q.m2,(g _ (by omega) (by omega)).trans q.m3,?_,q.set.turn I (λa=>?_),?_,?_,M⟩
 ·rcases hi with hi | hi
  ·have:=(o i hi.symm).1;omega
  ·omega
 ·exact heap_setCell_same f (z+4) 0 _ _ _ ((A.block (z+4) (by omega) (λe=>by have:=(o (z+4) e.symm).1;omega)).trans q.store)
 ·rcases a with a | a
  ·have:=(o (z+5) a.symm).1;omega
  ·omega
 ·refine (C.turn NoR.good ((Turn.refl (λb=>b=z+4) f).setCell (p:=⟨z+4,0,none⟩) (.inr rfl) _) (λb hb=>?_) (λb hb e=>?_)).mono NoR.good λb hb=>?_
  ·rcases hb with hb | hb | hb
   ·omega
   ·omega
   ·omega
  ·rcases hb with hb | hb | hb
   ·omega
   ·omega
   ·rcases D with h1 | h1
    ·have:=(o d h1).1;omega
    ·omega
  ·show z+6<=b/\b<(f.setCell _ _).heap.size;simp only[World.size_setCell];rcases hb with hb | hb | hb
   ·omega
   ·omega
   ·rcases D with h1 | h1
    ·have:=(o d h1).1;omega
    ·omega
 ·rw[g_ a];exact h.all.snoc J
structure fp_ (w:World) (z z2:Nat) (nids:List Int) (NS:List i_) (Ns:Value) (l:List m_) (ids:List Int) (k:Nat) (es:List m_) (Es:Value) (wr:World):Prop where
 below:Below z w wr
 m1:wr.heap[z+1]?=some (.map #[] 0)
 m2:wr.heap[z+2]?=some (.map #[] 0)
 m3:wr.heap[z+3]?=some (.map #[] 0)
 store:wr.heap[z+4]?=some (.cells #[Ns,Es,.map (some (z+1)),.map (some (z+2)),.map (some (z+3))] 143 (0,0))
 nset:ax_ 2 VI hu_ wr (z+5) nids
 set:ax_ 2 VI hu_ wr z2 ids
 far:z+6<=z2
 nodes:B_ 72 3 NoR wr (λb=>z+6<=b/\b<z2) NS Ns
 own:B_ 74 5 EdR wr (λb=>z2+1<=b/\b<wr.heap.size) es Es
 all:bm_ jg_ (l.take k) es
 ok:Y_ (okE nids) m_.id [] (l.take k)=true
section
variable {w:World} {z z2:Nat} {nids:List Int} {NS:List i_} {Ns:Value} {l:List m_} {ids ids':List Int} {k:Nat} {es:List m_} {Es:Value} {wr w2:World}
theorem fp_.on (h:fp_ w z z2 nids NS Ns l ids k es Es wr) (hb:Below wr.heap.size wr w2):fp_ w z z2 nids NS Ns l ids k es Es w2:=by
 have hz:z2<wr.heap.size:=h.set.lt;have c:=h.far
 exact⟨h.below.trans (hb.mono (by omega)),(hb.block _ (by omega)).trans h.m1,(hb.block _ (by omega)).trans h.m2,(hb.block _ (by omega)).trans h.m3,(hb.block _ (by omega)).trans h.store,h.nset.below hb,h.set.below hb,c,
  h.nodes.turn NoR.good (Turn.of_below hb) (λb hb=>by omega) (λb hb h=>by omega),
  (h.own.turn EdR.good (Turn.of_below hb) (λb hb=>hb.2) (λb hb h=>by omega)).mono EdR.good (λb a=>⟨a.1,Nat.lt_of_lt_of_le a.2 hb.size⟩),h.all,h.ok⟩
theorem fp_.put (h:fp_ w z z2 nids NS Ns l ids k es Es wr) (ht:Turn (λb=>b=z2) wr w2) (c:ax_ 2 VI hu_ w2 z2 ids'):fp_ w z z2 nids NS Ns l ids' k es Es w2:=by
 have hz:z2<wr.heap.size:=h.set.lt;have d:=h.far
 exact⟨h.below.trans (ht.below (B:=z) (λi _ hi=>by omega) (by omega)),(ht.block _ (by omega) (by omega)).trans h.m1,(ht.block _ (by omega) (by omega)).trans h.m2,(ht.block _ (by omega) (by omega)).trans h.m3,(ht.block _ (by omega) (by omega)).trans h.store,h.nset.turn ht (by omega),c,d,
  h.nodes.turn NoR.good ht (λb hb=>by omega) (λb hb h=>by omega),
  (h.own.turn EdR.good ht (λb hb=>hb.2) (λb hb h=>by omega)).mono EdR.good (λb a=>⟨a.1,Nat.lt_of_lt_of_le a.2 ht.size⟩),h.all,h.ok⟩
end
theorem fp_.more {w:World} {z z2:Nat} {nids:List Int} {NS:List i_} {Ns:Value} {l:List m_} {ids:List Int} {k:Nat} {es:List m_} {m:Option Addr} {j:Nat} {w5 w6 d:World} {cs:Nat->Array Value} {x n':m_} {c:Array Value} {a t:Nat}
    (h:fp_ w z z2 nids NS Ns l ids k es (.slice m k j) w5) (v:es.length=k) (r:∀b,(Value.slice m k j).ownBlock=some b->z2+1<=b/\b<w5.heap.size) (O:∀i,i<k->(cs i).size=5) (W:∀i x,es[i]?=some x->EdR w5 (λb=>(z2+1<=b/\b<w5.heap.size)/\(Value.slice m k j).ownBlock≠some b) x (cs i))
    (q:l[k]?=some x) (C:Below w5.heap.size w5 w6) (L:jg_ x n') (N:EdR w6 (λb=>w5.heap.size<=b/\b<w6.heap.size) n' c) (S:c.size=5) (D:w6.grownBy d (Value.slice m k j).ownBlock) (J:(Value.slice m k j).ownBlock=some a\/a=w6.heap.size+1)
    (P:d.ownsRow 0 74 5 (.slice (some ⟨a,0,none⟩) (k+1) t) (k+1) (N_ cs k++c.toList)) (M:Y_ (okE nids) m_.id [] (l.take (k+1))=true) :
    fp_ w z z2 nids NS Ns l ids (k+1) (es++[n']) (.slice (some ⟨a,0,none⟩) (k+1) t) (d.setCell ⟨z+4,1,none⟩ (.slice (some ⟨a,0,none⟩) (k+1) t)):=by
 have hz:z2<w5.heap.size:=h.set.lt;have V:=h.far;have Y:w5.heap.size<=w6.heap.size:=C.size;have X:w6.heap.size<=d.heap.size:=D.size;have Z:a<d.heap.size:=(P.lt a rfl).2;have o:=h.on C
 have I:=hv_ (w5:=w6) (w6:=d) (R:=EdR) (E:=74) (sz:=5) (F:=λb=>z2+1<=b/\b<w5.heap.size) (G:=λb=>w5.heap.size<=b/\b<w6.heap.size) (l:=es) (x:=n') (s:=.slice m k j) (c:=c) (g4:=a) (c4:=t) (cs:=cs) EdR.good
  (λi hi=>O i (by omega)) (λi y U=>EdR.good.keep (W i y U) (λp T=>C.cell (by have:=T.1.2;omega))) N S (λb hb e=>by have:=(r b e).2;have:=hb.1;omega) (λb hb=>by have:=hb.2;omega) (λb hb=>hb.2) (by rw[v];exact P) D (by rcases J with e | e;exact .inl e;exact .inr (by omega))
 rw[v]at I
 have A:Turn (λb=>some b=(Value.slice m k j).ownBlock\/b=z+4) w6 (d.setCell ⟨z+4,1,none⟩ (.slice (some ⟨a,0,none⟩) (k+1) t)):=
  ((Turn.of_grown D).mono (λb _ hb=>.inl hb)).trans (((Turn.refl (λb=>b=z+4) d).setCell (p:=⟨z+4,1,none⟩) (.inr rfl) _).mono (λb _ hb=>.inr hb))
 have f:∀b,b<z2+1->b≠z+4->¬(some b=(Value.slice m k j).ownBlock\/b=z+4):=λb hb u q=>by
  rcases q with q | q
  ·have:=(r b q.symm).1;omega
  ·exact u q
 have g:∀b,b<z2+1->b≠z+4->(d.setCell ⟨z+4,1,none⟩ (.slice (some ⟨a,0,none⟩) (k+1) t)).heap[b]?=w6.heap[b]?:=λb hb u=>A.block b (by omega) (f b hb u);refine⟨o.below.trans (A.below (B:=z) (λi _ hi=>?_) (by omega)),(g _ (by omega) (by omega)).trans o.m1,(g _ (by omega) (by omega)).trans o.m2,(g _ (by omega) (by omega)).trans o.m3,?_,o.nset.turn A (f _ (by omega) (by omega)),o.set.turn A (f _ (by omega) (by omega)),V,o.nodes.turn NoR.good A (λb hb=>by omega) (λb hb=>f b (by omega) (by omega)),?_,?_,M⟩
 ·rcases hi with hi | hi
  ·have:=(r i hi.symm).1;omega
  ·omega
 ·exact heap_setCell_same d (z+4) 1 _ _ _ ((D.block (z+4) (by omega) (λe=>by have:=(r (z+4) e.symm).1;omega)).trans o.store)
 ·refine (I.turn EdR.good ((Turn.refl (λb=>b=z+4) d).setCell (p:=⟨z+4,1,none⟩) (.inr rfl) _) (λb hb=>?_) (λb hb e=>?_)).mono EdR.good λb hb=>?_
  ·rcases hb with hb | hb | hb
   ·omega
   ·omega
   ·omega
  ·rcases hb with hb | hb | hb
   ·omega
   ·omega
   ·rcases J with h1 | h1
    ·have:=(r a h1).1;omega
    ·omega
  ·show z2+1<=b/\b<(d.setCell _ _).heap.size;simp only[World.size_setCell];rcases hb with hb | hb | hb
   ·omega
   ·omega
   ·rcases J with h1 | h1
    ·have:=(r a h1).1;omega
    ·omega
 ·rw[g_ q];exact h.all.snoc L
theorem Jh_ {g:y_} (h:Y_ (okE (g.nodes.map i_.id)) m_.id [] g.edges=false):cw_ g=false:=by unfold cw_;rw[h];simp
theorem fn_.next {w:World} {z:Nat} {d c:Value} {l:List i_} {nids:List Int} {k:Nat} {a:List i_} {Ns:Value} {wr:World} (h:fn_ w z d c l nids k a Ns wr) (le:List m_) :
    fp_ w z wr.heap.size nids a Ns le [] 0 [] (.slice none 0 0) (wr.alloc (.map #[] 0)):=by
 have hz:z+5<wr.heap.size:=h.set.lt;have h2:=h.on ((Below.refl wr.heap.size wr).alloc (Nat.le_refl _) (.map #[] 0));exact⟨h2.below,h2.m1,h2.m2,h2.m3,h2.store,h2.set,ax_.made _ _ _ _,by omega,h.own.turn NoR.good (Turn.of_below ((Below.refl wr.heap.size wr).alloc (Nat.le_refl _) (.map #[] 0))) (λb hb=>hb.2) (λb hb h=>by omega),B_.nil ..,bm_.nil _,rfl⟩
theorem kk_ (a b:Int):(dk_ a b<0)=(a<b):=by
 unfold dk_;by_cases h1:a<b
 ·simp[h1]
 ·by_cases h2:b<a<;>simp[h1,h2]
structure ItN where
 n:i_
 A:Option Addr
 c:Nat
 B:Option Addr
 d:Nat
instance:Inhabited ItN:=⟨⟨⟨0,[],[]⟩,none,0,none,0⟩⟩
def Cd_ (x:ItN):List Value:=[.int .i64 x.n.id,.slice x.A x.n.labels.length x.c,.slice x.B x.n.props.length x.d]
structure ItE where
 e:m_
 A:Option Addr
 c:Nat
instance:Inhabited ItE:=⟨⟨⟨0,0,0,⟨#[]⟩,[]⟩,none,0⟩⟩
def Ce_ (x:ItE):List Value:=[.int .i64 x.e.id,.int .i64 x.e.src,.int .i64 x.e.dst,.string x.e.type,.slice x.A x.e.props.length x.c]
theorem Gq_ (x y:ItN) (W:World):Calls Tryz.prog 95 #[.agg (Cd_ x).toArray,.agg (Cd_ y).toArray] W λe w'=>e = .returned (.int .i64 (dk_ x.n.id y.n.id))/\∃q b,w'=Go.Sort.grow (W.drewN q) b:=by
 have a:=q_ (λc=>vr_ x.n.id y.n.id c);generalize dk_ x.n.id y.n.id=r at a ⊢;unfold Cd_;go_enter Tryz.func95,Tryz.ntmps95
 go_wp2_with fail;refine (a.o _).mono ?_;rintro e w' ⟨rfl,rfl⟩;go_wp2_with fail;go_ret;exact⟨rfl,0,_,by rw[Go.Sort.alloc_eq_grow,Go.Sort.alloc_eq_grow,Go.Sort.grow_grow];rfl⟩
theorem Gr_ (x y:ItE) (W:World):Calls Tryz.prog 98 #[.agg (Ce_ x).toArray,.agg (Ce_ y).toArray] W λe w'=>e = .returned (.int .i64 (dk_ x.e.id y.e.id))/\∃q b,w'=Go.Sort.grow (W.drewN q) b:=by
 have a:=q_ (λc=>vr_ x.e.id y.e.id c);generalize dk_ x.e.id y.e.id=r at a ⊢;unfold Ce_;go_enter Tryz.func98,Tryz.ntmps98
 go_wp2_with fail;refine (a.o _).mono ?_;rintro e w' ⟨rfl,rfl⟩;go_wp2_with fail;go_ret;exact⟨rfl,0,_,by rw[Go.Sort.alloc_eq_grow,Go.Sort.alloc_eq_grow,Go.Sort.grow_grow];rfl⟩
theorem Mb_ {I:Type} (a : I->Int):Go.Sort.SWO (ltOf λx y:I=>dk_ (a x) (a y)) where
 irrefl x:=by unfold ltOf;rw[decide_eq_false_iff_not,kk_];omega
 trans x y z h1 h2:=by unfold ltOf at *;rw [decide_eq_true_iff, kk_] at *;omega
 ntrans x y z h1 h2:=by unfold ltOf at *;rw [decide_eq_false_iff_not, kk_] at *;omega
theorem itN {w:World} {F:Nat->Prop} {x:i_} {c:Array Value} (h:NoR w F x c):∃a,Cd_ a=c.toList/\a.n=x:=by obtain⟨L,P,rfl,⟨A,d,rfl,_⟩,B,b,rfl,_⟩:=h;exact⟨⟨x,A,d,B,b⟩,rfl,rfl⟩
theorem itE {w:World} {F:Nat->Prop} {x:m_} {c:Array Value} (h:EdR w F x c):∃a,Ce_ a=c.toList/\a.e=x:=by obtain⟨P,rfl,A,b,rfl,_⟩:=h;exact⟨⟨x,A,b⟩,rfl,rfl⟩
def zj_ {α : Type} (sz:Nat) (R:bj_ α) (le:α -> α -> Prop) (F:Nat->Prop) (l:List α) (s:Value) (w:World) (e:Ending) (w':World):Prop:=
 e = .returned (.tuple #[])/\∃a:List α,(a.Perm l/\a.Pairwise le)/\SlR sz R w' F a s/\Turn (λb=>s.ownBlock=some b) w w'
def leN (a b:i_):Prop:=¬dk_ b.id a.id<0
def leE (a b:m_):Prop:=¬dk_ b.id a.id<0
theorem tk_ {w:World} {F:Nat->Prop} {l:List i_} {s:Value} (h:B_ 72 3 NoR w F l s) (c:l.length<=100000000) (i:∀b,F b->b<w.heap.size) :
    Calls Tryz.prog 94 #[s,.func (.func 95) #[] #[]] w (zj_ 3 NoR leN F l s w):=
 (o1_ Tryz.sortN NoR.good (by decide) Tryz.isAgg72 Tryz.sizeOf72 Cd_ ItN.n (λ_=>rfl) (λx v d=>by simp[Cd_]at d;rcases d with rfl | rfl | rfl<;>rfl) itN (λa b=>dk_ a.id b.id) (Mb_ λx:ItN=>x.n.id) 95 (enters_of Tryz.func95 (by kernel_rfl) rfl) Gq_ h c i).mono λ_ _ ⟨f,g,h1,h2,e,j⟩=>⟨f,g,⟨h1,h2⟩,e,j⟩
theorem Cf_ {w:World} {F:Nat->Prop} {l:List m_} {s:Value} (h:B_ 74 5 EdR w F l s) (c:l.length<=100000000) (j:∀b,F b->b<w.heap.size) :
    Calls Tryz.prog 97 #[s,.func (.func 98) #[] #[]] w (zj_ 5 EdR leE F l s w):=
 (o1_ Tryz.sortE EdR.good (by decide) Tryz.isAgg74 Tryz.sizeOf74 Ce_ ItE.e (λ_=>rfl) (λx v d=>by simp[Ce_]at d;rcases d with rfl | rfl | rfl | rfl | rfl<;>rfl) itE (λa b=>dk_ a.id b.id) (Mb_ λx:ItE=>x.e.id) 98 (enters_of Tryz.func98 (by kernel_rfl) rfl) Gr_ h c j).mono λ_ _ ⟨g,i,h1,h2,f,m⟩=>⟨g,i,⟨h1,h2⟩,f,m⟩
theorem gr_ {α : Type} {ok:List Int -> α -> Bool} {key:α -> Int} (d:∀ks x,ok ks x=true->key x∉ks) {l:List α}:∀{ks:List Int},ks.Nodup->Y_ ok key ks l=true->(ks++l.map key).Nodup:=by
 induction l with
 | nil=>intro ks c _;simpa using c
 | cons x r g=>
  intro ks c h;simp only[Y_,Bool.and_eq_true]at h;have f:=d ks x h.1;have h2:=g (ks:=ks++[key x]) (by rw[List.nodup_append];refine⟨c,by simp,λa i b hb e=>?_⟩;simp at hb;subst hb;exact f (e▸i)) h.2;simpa using h2
theorem zk_ {ks:List Int} {x:i_} (h:okN ks x=true):x.id∉ks:=by unfold okN at h;simp only[Bool.and_eq_true,Bool.not_eq_true']at h;intro a;rw[dx_ a]at h;simp at h
theorem zl_ {b ks:List Int} {x:m_} (h:okE b ks x=true):x.id∉ks:=by unfold okE at h;simp only[Bool.and_eq_true,Bool.not_eq_true']at h;intro a;rw[dx_ a]at h;simp at h
theorem kl_ {α a c : Type} {R:α -> a -> Prop} {f:α -> c} {g:a -> c} (h:∀x y,R x y->g y=f x) {l:List α} {m:List a} (b:bm_ R l m):m.map g=l.map f:=by
 apply List.ext_getElem?;intro i;rw[List.getElem?_map,List.getElem?_map]
 cases hx:l[i]? with
 | none=>
  have h2:m[i]?=none:=by rw[List.getElem?_eq_none_iff]at hx ⊢;rw[<-b.1];exact hx
  rw[h2];rfl
 | some x=>
  have hi:=by_ hx;have d:i<m.length:=by rw[<-b.1];exact hi
  have h2:=List.getElem?_eq_getElem d;rw[h2];simp[h x _ (b.2 i x _ hx h2)]
theorem km_ {α : Type} {key:α -> Int} {l m:List α} (h:l.Perm m) (a:(m.map key).Nodup):(l.map key).Nodup:=(h.map key).nodup_iff.2 a
theorem pl_ {α : Type} {key:α -> Int} {l:List α} (b:(l.map key).Nodup) {k:Nat} {x:α} (e:l[k]?=some x):key x∉(l.take k).map key:=by
 intro h;obtain⟨y,f,d⟩:=List.mem_map.1 h;obtain⟨i,hi⟩:=List.mem_iff_getElem?.1 f;have a:i<k:=by have:=by_ hi;rw[List.length_take]at this;omega
 rw[List.getElem?_take_of_lt a]at hi;obtain⟨h1,rfl⟩:=List.getElem?_eq_some_iff.1 hi;obtain⟨h2,rfl⟩:=List.getElem?_eq_some_iff.1 e;unfold List.Nodup at b;rw[List.pairwise_iff_getElem]at b;have c:=b i k (by rw[List.length_map];exact h1) (by rw[List.length_map];exact h2) a;rw[List.getElem_map,List.getElem_map]at c;exact c d
theorem bm_.mem {α a : Type} {R:α -> a -> Prop} {l:List α} {m:List a} (h:bm_ R l m) {y:a} (d:y∈m):∃x,x∈l/\R x y:=by
 obtain⟨i,hi⟩:=List.mem_iff_getElem?.1 d;have c:i<l.length:=by rw[h.1];exact by_ hi
 have b:=List.getElem?_eq_getElem c;exact⟨_,List.mem_of_getElem? b,h.2 i _ y b hi⟩
theorem Cg_ {g:y_} {c NS:List i_} (b:m7_ g) (e:Y_ okN i_.id [] g.nodes=true) (a:bm_ ij_ g.nodes c) (d:NS.Perm c):(NS.map i_.id).Nodup/\∀x,x∈NS->VI x.id:=by
 constructor
 ·refine km_ d ?_;rw[kl_ (R:=ij_) (f:=i_.id) (g:=i_.id) (λx y h=>h.1) a];exact gr_ (λks x h=>zk_ h) List.nodup_nil e
 ·intro x i;obtain⟨y,m,j⟩:=a.mem (d.mem_iff.1 i);rw[j.1];exact (b.2.2.1 y m).2
theorem Ch_ {g:y_} {es ES:List m_} (b:m7_ g) (e:Y_ (okE (g.nodes.map i_.id)) m_.id [] g.edges=true) (a:bm_ jg_ g.edges es) (d:ES.Perm es):(ES.map m_.id).Nodup/\∀x,x∈ES->VI x.id/\VI x.src/\VI x.dst:=by
 constructor
 ·refine km_ d ?_;rw[kl_ (R:=jg_) (f:=m_.id) (g:=m_.id) (λx y h=>h.1) a];exact gr_ (λks x h=>zl_ h) List.nodup_nil e
 ·intro x i;obtain⟨y,j,c⟩:=a.mem (d.mem_iff.1 i);rw[c.1,c.2.1,c.2.2.1];exact (b.2.2.2 y j).2
theorem SlR.rd {α : Type} {R:bj_ α} {w:World} {F:Nat->Prop} {l:List α} {sz n c:Nat} {A:Option Addr} (h:SlR sz R w F l (.slice A n c)):SRd sz R w F l A n:=by obtain⟨d,b,e,_,a⟩:=h;injection e with h1 h2 h3;subst h1 h2;exact a
theorem an_.more {w:World} {m:Nat} {ids:List Int} (h:an_ w m ids) {x:Int} (o:VI x) (d:x∉ids) (p:ids.length<=100000000) :
    ∃w',(Instr.mapUpdate 141 (.map (some m)) (.int .i64 x) (.int .i64 ((ids.length:Nat):Int))).run Tryz.prog w = .ok () w'/\an_ w' m (ids++[x])/\Turn (λb=>b=m) w w':=by
 obtain⟨D,h1,h2⟩:=h;have g:keyOf Tryz.prog 2 (.int .i64 x)=some (hu_ x):=keyOf_int_mk Tryz.underlying2 o;obtain⟨w',f,j,c⟩:=h1.store td_ Tryz.underlying141 (by unfold maxLen;omega) g (plainElem_int (P:=Tryz.prog) (e:=3) (q:=.i64) Tryz.underlying3 (a:=((ids.length:Nat):Int)) (by simp[Lit.wf,IntKind.min,IntKind.max,IntKind.signed,IntKind.bits];omega));refine⟨w',f,⟨_,?_,ids_put vs_ vt_ h2 o d⟩,(Turn.of_grown c.grown).mono (λi _ h=>by injection h)⟩;rw[List.length_append,List.length_singleton];exact j
theorem an_.fresh {w:World} {m:Nat} (h:w.heap[m]?=some (.map #[] 0)):an_ w m []:=
 ⟨.map [],⟨#[],0,h,⟨by simp,stamped_empty 0,by simp⟩,Nat.le_refl _,rfl⟩,ids_empty⟩
theorem dg_.fresh {w:World} {m b:Nat} (h:w.heap[m]?=some (.map #[] 0)) (hb:m<b):dg_ w b m 0 (aj_ []):=
 ⟨.map [],⟨#[],0,h,⟨by simp,stamped_empty 0,by simp⟩,Nat.le_refl _,rfl,hb,by simp,by simp⟩,λa d _ _=>rfl⟩
structure dm_ (w:World) (z mid:Nat) (NS:List i_) (ES:List m_) (Ns Es:Value) (ids eids:List Int) (n:Nat) (H:Int->Int->List Nat) (wr:World):Prop where
 below:Below z w wr
 store:wr.heap[z+4]?=some (.cells #[Ns,Es,.map (some (z+1)),.map (some (z+2)),.map (some (z+3))] 143 (0,0))
 nodes:SlR 3 NoR wr (λb=>z+6<=b/\b<mid) NS Ns
 edges:SlR 5 EdR wr (λb=>z+6<=b/\b<mid) ES Es
 at_:an_ wr (z+3) ids
 types:an_ wr (z+2) eids
 hops:dg_ wr mid (z+1) n H
 loc:z+6<=mid/\mid<=wr.heap.size
section
variable {w:World} {z mid:Nat} {NS:List i_} {ES:List m_} {Ns Es:Value} {ids eids ids' eids':List Int} {n n':Nat} {H H':Int->Int->List Nat} {wr w2:World}
theorem dm_.upd (h:dm_ w z mid NS ES Ns Es ids eids n H wr) {S:Nat->Prop} (ht:Turn S wr w2) (c:∀b,S b->(z<=b/\b<z+4)\/mid<=b) (h1:an_ w2 (z+3) ids') (h2:an_ w2 (z+2) eids') (d:dg_ w2 mid (z+1) n' H'):dm_ w z mid NS ES Ns Es ids' eids' n' H' w2:=by
 obtain⟨f,g⟩:=h.loc
 have a:∀b,z+4<=b->b<mid->¬S b:=λb h1 h2 e=>by
  rcases c b e with h | h<;>omega
 exact⟨h.below.trans (ht.below (B:=z) (λi _ hi=>by rcases c i hi with h | h<;>omega) (by omega)),(ht.block _ (by omega) (a _ (by omega) (by omega))).trans h.store,h.nodes.turn NoR.good ht (λb hb=>by omega) (λb hb=>a b (by omega) hb.2),h.edges.turn EdR.good ht (λb hb=>by omega) (λb hb=>a b (by omega) hb.2),h1,h2,d,⟨f,Nat.le_trans g ht.size⟩⟩
theorem dm_.on (h:dm_ w z mid NS ES Ns Es ids eids n H wr) (hb:Below wr.heap.size wr w2):dm_ w z mid NS ES Ns Es ids eids n H w2:=by have l:=h.loc;have ht:Turn (λb=>wr.heap.size<=b) wr w2:=Turn.of_below hb;have a:Turn (λ_=>False) wr w2:=⟨ht.os,ht.tape,ht.output,ht.size,λi hi _=>ht.block i hi (by omega)⟩;exact h.upd ht (λb hb=>.inr (by omega)) (h.at_.turn a id) (h.types.turn a id) (h.hops.turn a id (λ_ _=>id))
theorem dm_.done (h:dm_ w z mid NS ES Ns Es (NS.map i_.id) (ES.map m_.id) n (aj_ ES) wr) (a:n<=1000000):dy_ wr z (z+4) ⟨NS,ES⟩:=by obtain⟨c,d⟩:=h.loc;exact⟨Ns,Es,z+1,z+2,z+3,mid,n,h.store,h.nodes.mono NoR.good (λb hb=>⟨by omega,hb.2⟩),h.edges.mono EdR.good (λb hb=>⟨by omega,hb.2⟩),h.types,h.at_,h.hops,by omega,a⟩
theorem wd_ {w:World} {b:Nat} {cs:Array Value} {f:Nat×Nat} (h:w.heap[b]?=some (.cells cs 74 f)):¬fm_ w b:=λa=>absurd (a _ _ _ h) (by decide)
theorem pm_ {e g:World} {c q mid:Nat} {cs:Array Value} {f:Nat×Nat} (d:e.heap[c]?=some (.cells cs 74 f)) (h:c≠q) (ht:Turn (λb=>b=q\/(mid<=b/\fm_ e b)) e g):g.heap[c]?=some (.cells cs 74 f):=
 (ht.block c (b_ d) (λa=>by
  rcases a with a | a
  ·exact h a
  ·exact wd_ d a.2)).trans d
theorem vi1:VI 1:=by unfold VI;decide
theorem vi0:VI 0:=by unfold VI;decide
theorem vim:VI (-1):=by unfold VI;decide
theorem dm_.spoke (h:dm_ w z mid NS ES Ns Es ids eids n H wr) (c:dg_ w2 mid (z+1) n' H') (ht:Turn (λb=>b=z+1\/(mid<=b/\fm_ wr b)) wr w2):dm_ w z mid NS ES Ns Es ids eids n' H' w2:=by
 have l:=h.loc;refine h.upd ht (λb hb=>?_) (h.at_.turn ht (λa=>?_)) (h.types.turn ht (λa=>?_)) c
 ·rcases hb with hb | hb
  ·exact .inl ⟨by omega,by omega⟩
  ·exact .inr hb.1
 ·rcases a with a | a
  ·omega
  ·have:=a.1;omega
 ·rcases a with a | a
  ·omega
  ·have:=a.1;omega
theorem fp_.next {z2:Nat} {nids:List Int} {o NS:List i_} {l es ES:List m_} {ids:List Int} {k:Nat} {d w5:World} (h:fp_ w z z2 nids o Ns l ids k es Es wr)
    (p:SlR 3 NoR d (λb=>z+6<=b/\b<z2) NS Ns) (e:Turn (λb=>Ns.ownBlock=some b) wr d) (q:SlR 5 EdR w5 (λb=>z2+1<=b/\b<d.heap.size) ES Es) (c:Turn (λb=>Es.ownBlock=some b) d w5) :
    dm_ w z w5.heap.size NS ES Ns Es [] [] 0 (aj_ []) w5:=by
 have hz:z2<wr.heap.size:=h.set.lt;have s:=h.far;have t:wr.heap.size<=d.heap.size:=e.size;have r:d.heap.size<=w5.heap.size:=c.size;have m:∀b,Ns.ownBlock=some b->z+6<=b/\b<z2:=λb hb=>by obtain⟨cs,_,_,j,_⟩:=h.nodes;exact j b hb
 have g:∀b,Es.ownBlock=some b->z2+1<=b:=λb hb=>by obtain⟨cs,_,_,j,_⟩:=h.own;exact (j b hb).1
 have a:∀b,b<z+6->w5.heap[b]?=wr.heap[b]?:=λb hb=>(c.block b (by omega) (λf=>by have:=g b f;omega)).trans (e.block b (by omega) (λf=>by have:=(m b f).1;omega))
 refine⟨(h.below.trans (e.below (B:=z) (λi _ hi=>by have:=(m i hi).1;omega) (by omega))).trans (c.below (B:=z) (λi _ hi=>by have:=g i hi;omega) (by omega)),(a _ (by omega)).trans h.store,
  (p.turn NoR.good c (λb hb=>by omega) (λb hb f=>by have:=g b f;omega)).mono NoR.good (λb hb=>⟨hb.1,by omega⟩),q.mono EdR.good (λb hb=>⟨by omega,by omega⟩),
  an_.fresh ((a _ (by omega)).trans h.m3),an_.fresh ((a _ (by omega)).trans h.m2),dg_.fresh ((a _ (by omega)).trans h.m1) (by omega),by omega,Nat.le_refl _⟩
end
theorem ro_ (es:List m_) (e:m_):aj_ (es++[e])=(if e.dst=e.src then dh_ (dh_ (dh_ (aj_ es) e.src 1 es.length) e.dst (-1) es.length) e.src 0 es.length else dh_ (dh_ (dh_ (dh_ (aj_ es) e.src 1 es.length) e.dst (-1) es.length) e.src 0 es.length) e.dst 0 es.length):=by
 funext a d
 rw[rn_];by_cases i:e.dst=e.src
 ·rw[if_pos i];unfold dh_ m6_;rw[i];by_cases b:a=e.src
  ·subst b;by_cases h1:d=1
   ·subst h1;simp
   ·by_cases h2:d = -1
    ·subst h2;simp
    ·by_cases c:d=0
     ·subst c;simp
     ·simp[h1,h2,c]
  ·have f:e.src≠a:=λh=>b h.symm;simp[b,f]
 ·rw[if_neg i];unfold dh_ m6_;by_cases b:a=e.src
  ·subst b;have g:e.src≠e.dst:=λh=>i h.symm;by_cases h1:d=1
   ·subst h1;simp[g]
   ·by_cases h2:d = -1
    ·subst h2;simp[i,g]
    ·by_cases c:d=0
     ·subst c;simp[g]
     ·simp[h1,h2,c]
  ·have f:e.src≠a:=λh=>b h.symm;by_cases hb:a=e.dst
   ·subst hb;by_cases h1:d=1
    ·subst h1;simp[b,f]
    ·by_cases h2:d = -1
     ·subst h2;simp[b]
     ·by_cases c:d=0
      ·subst c;simp[b]
      ·simp[h1,h2,c]
   ·have j:e.dst≠a:=λh=>hb h.symm;simp[b,f,hb,j]
end
section
open Go Go.RowKit
theorem Gs_ {w:World} {F:Nat->Prop} {l:List Int} {A:Option Addr} {n:Nat} (h:SRd 1 IxR w F l A n) {i:Nat} {x:Int} (f:l[i]?=some x) :
    ∃ad,A=some ad/\F ad.block/\w.cell? (ad.add i)=some (.int .i64 x):=by
 obtain⟨ad,c,e,g,_,d,b⟩:=h.at_ f;have a:=d 0 (by omega);rw[b]at a;exact⟨ad,e,g,by simpa using a⟩
def Gt_ (b:Bool) (w:World) (e:Ending) (w':World):Prop:=e = .returned (.bool b)/\w'=w
def zm_ (b:Bool) (w:World) (e:Ending) (w':World):Prop:=∃r:Int,e = .returned (.int .i64 r)/\decide (0<=r)=b/\w'=w
theorem Gu_ (l:List ByteArray) (x:ByteArray) (F:Nat->Prop) (A:Option Addr) (n c:Nat) (w:World) (h:SRd 1 TxR w F l A n) (E:n<=1000000000) :
    Calls Tryz.prog 159 #[.slice A n c,.string x] w (zm_ (inB l x) w):=by
 have u:=q_ h;have q:=q_ h.1;clear h;obtain⟨r,e⟩:=a_ (inB l x);rw[e.o];go_enter Tryz.func159,Tryz.ntmps159
 go_wp2_with fail;go_loopw [8] (λg v=>∃k:Nat,k<=n/\g = .int .i64 (k:Nat)/\Q_ (v=w/\x∉l.take k)) (λg _=>n-(intOf g).toNat)
 case atStart=>exact⟨0,by omega,rfl,q_ ⟨rfl,by simp⟩⟩
 case round=>
  obtain⟨k,C,rfl,b⟩:=hrel;by_cases s:k<n
  ·obtain⟨y,i⟩:∃y,l[k]?=some y:=⟨l[k]'(by rw[<-q.o];exact s),List.getElem?_eq_getElem _⟩;have t:=q_ i;obtain⟨ad,rfl,_,J⟩:=Gb_ (u.o.keep TxR.good (w':=wr) (λp _=>by rw[b.o.1])) i;clear i;have I:(0:Int)<=k:=by omega
   have D:(k:Int)<n:=by omega
   have B:IntKind.i64.wrap ((k:Int)+1)=(k:Int)+1:=IntWalk.i64_in _ (by omega);by_cases a:x=y
   ·subst a;have f:=q_ (show r=true from by rw[<-e.o];exact dx_ (List.mem_of_getElem? t.o));go_wp2_with fail;go_ret;exact⟨(k:Int),rfl,by rw[f.o];simp,b.o.1⟩
   ·have G:=bi_ a;have m:=q_ a;clear a;go_wp2_with fail;go_roundw
    case rel=>
     refine⟨k+1,by omega,by go_num,q_ ⟨b.o.1,λd=>?_⟩⟩;rw[g_ t.o]at d;rcases List.mem_append.1 d with d | d
     ·exact b.o.2 d
     ·exact m.o (List.mem_singleton.1 d)
    case measure=>simp[intOf];omega
  ·have j:n=k:=by omega
   subst j;have f:=q_ (show r=false from by rw[<-e.o];refine ph_ ?_;have h:=b.o.2;rw[List.take_of_length_le (by rw[<-q.o];exact Nat.le_refl _)]at h;exact h);go_wp2_with fail;go_ret;exact⟨-1,rfl,by rw[f.o];simp,b.o.1⟩
theorem qk_ (l:List ByteArray) (x:ByteArray) (F:Nat->Prop) (A:Option Addr) (n c:Nat) (w:World) (h:SRd 1 TxR w F l A n) (f:n<=1000000000) :
    Calls Tryz.prog 106 #[.slice A n c,.string x] w (Gt_ (inB l x) w):=by
 have a:=q_ (Gu_ l x F A n c w h f);clear h;unfold zm_ at a;obtain⟨r,d⟩:=a_ (inB l x);rw[d.o]at a ⊢;go_enter Tryz.func106,Tryz.ntmps106
 go_wp2_with fail;refine a.o.mono ?_;rintro e i ⟨q,rfl,b,rfl⟩;have g:=q_ b;clear b;go_wp2_with fail;go_ret;exact⟨by rw[<-g.o];rfl,rfl⟩
def Gv_ (l:List Int) (w:World) (e:Ending) (w':World):Prop:=
 ∃A c,e = .returned (.slice A l.length c)/\Below w.heap.size w w'/\SRd 1 IxR w' (λb=>w.heap.size<=b/\b<w'.heap.size) l A l.length
structure pn_ (w:World) (ids:List Int) (s:Value) (wr:World):Prop where
 below:Below w.heap.size w wr
 own:B_ 2 1 IxR wr (λb=>w.heap.size<=b/\b<wr.heap.size) ids s
theorem pn_.on {w:World} {ids:List Int} {s:Value} {wr w2:World} (h:pn_ w ids s wr) (hb:Below wr.heap.size wr w2):pn_ w ids s w2:=
 ⟨h.below.trans (hb.mono h.below.size),(h.own.turn IxR.good (Turn.of_below hb) (λb hb=>hb.2) (λb hb a=>by omega)).mono IxR.good (λb a=>⟨a.1,Nat.lt_of_lt_of_le a.2 hb.size⟩)⟩
theorem pn_.more {w:World} {ids:List Int} {A:Option Addr} {c:Nat} {w5 w6:World} {x:Int} {g4 c4:Nat} {cs:Nat->Array Value} (hb:Below w.heap.size w w5) (r:∀i,i<ids.length->(cs i).size=1) (q:∀i x,ids[i]?=some x->IxR w5 (λb=>(w.heap.size<=b/\b<w5.heap.size)/\(Value.slice A ids.length c).ownBlock≠some b) x (cs i))
    (f:∀g,(Value.slice A ids.length c).ownBlock=some g->w.heap.size<=g/\g<w5.heap.size)
    (p:w6.ownsRow 0 2 1 (.slice (some ⟨g4,0,none⟩) (ids.length+1) c4) (ids.length+1) (N_ cs ids.length++[.int .i64 x])) (a:w5.grownBy w6 (Value.slice A ids.length c).ownBlock) (e:(Value.slice A ids.length c).ownBlock=some g4\/w5.heap.size<=g4) (j:g4<w6.heap.size) :
    pn_ w (ids++[x]) (.slice (some ⟨g4,0,none⟩) (ids.length+1) c4) w6:=by
 have d:=hv_ (R:=IxR) (F:=λb=>w.heap.size<=b/\b<w5.heap.size) (G:=λ_=>False) (sz:=1) (E:=2) (c:=#[.int .i64 x]) (x:=x) IxR.good r q rfl rfl (λb h=>h.elim) (λb h=>h.2) (λb h=>h.elim) p a e;have s:w5.heap.size<=w6.heap.size:=a.size;refine⟨?_,d.mono IxR.good (λb m=>?_)⟩
 ·have ht:=Turn.of_grown a
  exact hb.trans (ht.below (B:=w.heap.size) (λi _ hi=>by
   by_cases o:w.heap.size<=i
   ·exact o
   ·exact (f i hi.symm).1) hb.size)
 ·rcases m with h | h | h
  ·exact⟨h.1,by omega⟩
  ·exact h.elim
  ·subst h;refine⟨?_,j⟩;rcases e with h | h
   ·exact (f b h).1
   ·have:=hb.size;omega
end
section
open Go Go.RowKit Go.Maps Go.WideMaps
theorem Mc_ (a:List Int):N_ (λi=>#[.int .i64 (a.getD i 0)]) a.length=a.map (Value.int .i64):=by
 have b:∀i,i<a.length->((λi=>#[Value.int .i64 (a.getD i 0)]) i).size=1:=λ_ _=>rfl;apply List.ext_getElem?;intro i;by_cases hi:i<a.length
 ·have h:=bt_ (sz:=1) (j:=0) b hi (by omega);rw[Nat.mul_one,Nat.add_zero]at h;rw[h,List.getElem?_map,List.getElem?_eq_getElem hi];simp[List.getD,List.getElem?_eq_getElem hi]
 ·rw[List.getElem?_eq_none (by rw[ad_ b];omega),List.getElem?_eq_none (by rw[List.length_map];omega)]
theorem Ji_ {w:World} {d:Nat} {e:TypeId} {v:Value} {a:List Int} (h:w.ownsInts d e .i64 v a):∃A c,v = .slice A a.length c/\SRd 1 IxR w (λb=>b<w.heap.size) a A a.length:=by
 have q:B_ e 1 IxR w (λb=>b<w.heap.size) a v:=⟨λi=>#[.int .i64 (a.getD i 0)],by
  rw[Mc_];refine⟨h.1.1,?_⟩;rcases h.1.2 with h1 | ⟨g,f,j,h1,_,h2⟩
  ·exact .inl h1
  ·exact .inr ⟨g,f,j,h1,Nat.zero_le _,h2⟩,λ_ _=>rfl,λg o=>(h.1.lt g o).2,λi x p=>by
  show (#[Value.int .i64 (a.getD i 0)]:Array Value)=#[.int .i64 x];simp[List.getD,p]⟩
 obtain⟨A,c,m,_,h2⟩:=q.rd IxR.good;exact⟨A,c,m,h2⟩
theorem Gw_ {H:Type} {q:IntKind} {l m:List Int} (h:(Go.ChangeShapes.lits q l:List (DataW H))=Go.ChangeShapes.lits q m):l=m:=by unfold Go.ChangeShapes.lits at h;exact (List.map_inj_right (λa b e=>(Lit.int.inj (DataW.lit.inj e)).2)).1 h
def c1_ (q:List ByteArray) (e:m_):Bool:=q.isEmpty || inB q e.type
def ck_ (es:List m_) (q:List ByteArray) (l:List Nat):List Int:=l.filterMap λi=>(es[i]?).bind λe=>if c1_ q e=true then some e.id else none
theorem zn_ {es:List m_} {a d:Int} {i:Nat} (h:i∈aj_ es a d):i<es.length:=by unfold aj_ at h;exact List.mem_range.1 (List.mem_filter.1 h).1
theorem Gx_ (es:List m_) (a d:Int):(aj_ es a d).length<=es.length:=by unfold aj_;have:=List.length_filter_le (λi=>(es[i]?.map λe=>m6_ e a d).getD false) (List.range es.length);rw[List.length_range]at this;exact this
theorem Gy_ (G:y_) (a d:Int) (q:List ByteArray) (lo p:Nat) (Ns Es:Value) (mh mt ma mid n0:Nat) (F:Nat->Prop) (B:Option Addr) (s c2:Nat) (w:World) (f:cj_ w lo p G Ns Es mh mt ma mid n0) (X:VI a) (O:VI d)
    (hF:∀b,F b->b<w.heap.size) (hq:SRd 1 TxR w F q B s) (bf:s<=1000000000) (ab:G.edges.length<=2000000) :
    Calls Tryz.prog 36 #[.pointer (some ⟨p,0,none⟩),.int .i64 a,.int .i64 d,.slice B s c2] w (Gv_ (ck_ G.edges q (aj_ G.edges a d)) w):=by
 have a6:=q_ f;have HQ:=q_ hq;have HF:=q_ hF;have U:=ki_ X O;obtain⟨AE,cE,ae,_,a1⟩:=f.edges;obtain⟨nE,L⟩:=a_ G.edges.length;rw[L.o]at ae a1 ab;subst ae;have aw:=q_ (a1.mono EdR.good (F':=λb=>b<w.heap.size) (λb hb=>by have:=f.loc;omega));obtain⟨D,V,Z⟩:=f.hops;have ap:=q_ (Z a d X O);have b2:n0<maxLen:=by have:=f.few;unfold maxLen;omega
 have b7:=q_ hq.1;have x2:w.cell? ⟨p,2,none⟩=some (.map (some mh)):=cell_of_heap f.blk 2;have ai:=q_ V;have ag:=q_ U;clear f hq hF a1 V Z X O U;go_enter Tryz.func36,Tryz.ntmps36
 go_wp2_with (at_lookup;refine wpList_lookup_groups _ rfl _ _ 140 rfl 165 94 3 .i64 Gi_ Tryz.underlying140 (by kernel_rfl) mid mh n0 D rfl ai.o b2 _ _ rfl ag.o ?_;intro v zs a7 R _ _;have HZ:Q_ (zs=yf_ (aj_ G.edges a d)):=q_ (by have h1:=ap.o;rw[a7,lz_ R]at h1;exact Gw_ h1);obtain⟨A9,c9,b4,W⟩:=Ji_ R;subst b4;have ac:=q_ W;clear a7 R W)
 obtain⟨M,u⟩:=a_ zs.length;rw[u.o]at ac;have bg:M<=2000000:=by rw[<-u.o,HZ.o];unfold yf_;rw[List.length_map];exact Nat.le_trans (Gx_ ..) (by rw[L.o];exact ab)
 rw[u.o];clear x2;have az:=q_ (show ck_ G.edges q []=[] from rfl);go_wp2_with fail;go_loopw [9,22] (λs9 a2 wx=>∃(k:Nat) (ids:List Int),k<=M/\a2 = .int .i64 (k:Nat)/\ids=ck_ G.edges q ((aj_ G.edges a d).take k)/\ids.length<=k/\Q_ (pn_ w ids s9 wx)) (λ_ a2 _=>M-(intOf a2).toNat)
 case atStart=>exact⟨0,[],by omega,rfl,by rw[List.take_zero];exact az.o.symm,by simp,q_ ⟨Below.refl _ _,B_.nil ..⟩⟩
 case round=>
  obtain⟨k,ids,hk,rfl,T,ak,t⟩:=hrel;have E:=q_ T;clear T;by_cases bj:k<M
  ·obtain⟨i,hi⟩:∃i,(aj_ G.edges a d)[k]?=some i:=⟨(aj_ G.edges a d)[k]'(by have h:=u.o;rw[HZ.o]at h;unfold yf_ at h;rw[List.length_map]at h;omega),List.getElem?_eq_getElem _⟩;have HI:=q_ hi;have bb:i<nE:=by rw[<-L.o];exact zn_ (List.mem_of_getElem? hi)
   have a8:zs[k]?=some (i:Int):=by rw[HZ.o];unfold yf_;rw[List.getElem?_map,hi];rfl
   obtain⟨bh,rfl,_,z0⟩:=Gs_ (ac.o.under IxR.good t.o.below (λb hb=>hb)) a8;obtain⟨x,hx⟩:∃x,G.edges[i]?=some x:=⟨G.edges[i]'(by rw[L.o];exact bb),List.getElem?_eq_getElem _⟩;have HX:=q_ hx;obtain⟨ad,A2,d2,rfl,aq,b5,au,q0,q1,q2,q3,q4⟩:=nh_ (aw.o.under EdR.good t.o.below (λb hb=>hb)) hx;clear hi a8 hx aq b5 au;obtain⟨id,N⟩:=a_ x.id;obtain⟨src,aj⟩:=a_ x.src;obtain⟨dst,am⟩:=a_ x.dst;obtain⟨g,P⟩:=a_ x.type;obtain⟨m2,bd⟩:=a_ x.props.length;rw[N.o]at q0;rw[aj.o]at q1;rw[am.o]at q2;rw[P.o]at q3;rw[bd.o]at q4;have x1:wr.cell? ⟨p,1,none⟩=some (.slice (some ad) nE cE):=(t.o.below.cell (b_ a6.o.blk)).trans (cell_of_heap a6.o.blk 1);obtain⟨zn,a5⟩:=a_ wr.heap.size;obtain⟨w2,a0⟩:=a_ (wr.alloc (.cells #[.int .i64 id,.int .i64 src,.int .i64 dst,.string g,.slice A2 m2 d2] 74));have av:=q_ (show Below wr.heap.size wr w2 from by rw[<-a0.o];exact (Below.refl _ _).alloc (Nat.le_refl _) _);have a4:=q_ (show w2.heap[zn]?=some (.cells #[.int .i64 id,.int .i64 src,.int .i64 dst,.string g,.slice A2 m2 d2] 74 (0,0)) from by rw[<-a0.o,<-a5.o];exact heap_alloc_new wr _);have m:=q_ (t.o.on av.o);have af:=q_ (qk_ q g F B s c2 w2 (HQ.o.under TxR.good m.o.below HF.o) bf)
   have j:=q_ (show ck_ G.edges q ((aj_ G.edges a d).take (k+1))=ck_ G.edges q ((aj_ G.edges a d).take k)++(if c1_ q x=true then [id] else []) from by
    unfold ck_;rw[g_ HI.o,List.filterMap_append];congr 1
    rw[<-N.o];by_cases h:c1_ q x=true
    ·simp[HX.o,h]
    ·simp[HX.o,h])
   have e1:(0:Int)<=k:=by omega
   have e2:(k:Int)<M:=by omega
   have e3:(0:Int)<=i:=by omega
   have e4:(i:Int)<nE:=by omega
   have w1:IntKind.i64.wrap ((k:Int)+1)=(k:Int)+1:=IntWalk.i64_in _ (by omega);clear t;go_upto_region 6 with fail;rw[a5.o,a0.o];clear q0 q1 q2 q3 q4 z0 x1
   have S:=q_ (show c1_ q x=(decide (s=0) || inB q g) from by
    unfold c1_;rw[P.o];congr 1
    rw[b7.o]
    cases q with
    | nil=>rfl
    | cons y r=>simp)
   obtain⟨tk,ba⟩:=a_ (c1_ q x);rw[ba.o]at j S;go_cut [41] (λb1 wx=>b1 = .bool tk/\wx=w2)
   case first=>
    have b3:w2.cell? ⟨zn,3,none⟩=some (.string g):=cell_of_heap a4.o 3;by_cases h0:s=0
    ·have t0:((s:Int)==0)=true:=beq_iff_eq.2 (by omega);have Y:=q_ (show tk=true from by rw[S.o,decide_eq_true h0];rfl);clear h0;go_wp2_with fail;go_meet;exact⟨by rw[Y.o],rfl⟩
    ·have t0:((s:Int)==0)=false:=beq_eq_false_iff_ne.2 (by omega);have Y:=q_ (show inB q g=tk from by rw[S.o,decide_eq_false h0];rfl);rw[Y.o]at af;clear h0;go_wp2_with fail;refine af.o.mono ?_;rintro e wb ⟨rfl,rfl⟩;go_wp2_with fail;go_meet;exact⟨rfl,rfl⟩
   case rest=>
    obtain⟨b6,rfl⟩:=hcut;subst b6
    cases tk with
    | false=>
     go_wp2_with fail;go_roundw
     case rel=>exact⟨k+1,ids,by omega,by go_num,by rw[j.o,E.o];simp,by omega,m⟩
     case measure=>simp[intOf];omega
    | true=>
     obtain⟨A3,c3,bc⟩:=m.o.own.form;subst bc;obtain⟨cs,C,h6,J,hr⟩:=m.o.own;have ay:=q_ (And.intro h6 (And.intro J hr));obtain⟨n3,I⟩:=a_ ids.length;rw[I.o]at C ak;have ah:=q_ C;have b0:wc.cell? ⟨zn,0,none⟩=some (.int .i64 id):=cell_of_heap a4.o 0;clear h6 J hr C;rw[I.o];go_wp2_with (at_builtin;refine jo_ rfl _ _ 84 rfl 0 2 (.int .i64 0) 1 8 Tryz.underlying84 Ho_ rfl (by decide) (.slice A3 n3 c3) n3 (N_ cs n3) rfl ah.o (Nat.zero_le _) #[.int .i64 id] 1 1 rfl rfl (yv_ _ _) (by omega) (by omega) (by decide) ?_;intro g4 bi w4 a9 aa a3;have b8:=q_ a9;have b9:=q_ aa;have ao:=q_ a3;clear a9 aa a3)
     go_roundw
     case rel=>
      refine⟨k+1,ids++[id],by omega,by go_num,by rw[j.o,E.o];simp,by rw[List.length_append,I.o];simp;omega,q_ ?_⟩;obtain⟨h6,J,hr⟩:=ay.o;have ho:=b8.o;have hg:=b9.o;have hl:=ao.o;rw[<-I.o]at ho hg hl ⊢;refine pn_.more m.o.below h6 hr J ho hg hl ?_;exact (ho.lt g4 rfl).2
     case measure=>simp[intOf];omega
  ·have ar:M=k:=by omega
   subst ar;have HR:=q_ (show ids=ck_ G.edges q (aj_ G.edges a d) from by rw[E.o,List.take_of_length_le];have h:=u.o;rw[HZ.o]at h;unfold yf_ at h;rw[List.length_map]at h;omega);obtain⟨A,c,hs⟩:=t.o.own.form;subst hs;go_wp2_with fail;go_ret;rw[<-HR.o];exact⟨A,c,rfl,t.o.below,t.o.own.rd IxR.good |>.rd⟩
end
end Go.Proofs.YtefhfadjajcmkaaGreatDoor
