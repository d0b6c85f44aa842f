/- 'node' once more: its labels lie in a row of their own, which may be written. -/
import Derived.Test.YtefhfadjajcmkaaGreatDoorHI
set_option linter.unusedVariables false
set_option linter.unusedSimpArgs false
set_option maxRecDepth 100000
set_option maxHeartbeats 64000000
namespace Go.Proofs.YtefhfadjajcmkaaGreatDoor
open Go.Lib (cell_of_heap)
section
open Go Go.RowKit Go.Maps Go.WideMaps
def ah_ {α K:Type} (ok:List K -> α -> Bool) (key:α -> K):List K->List α -> Bool
 | _,[]=>true
 | ks,x::r=>ok ks x&&ah_ ok key (ks++[key x]) r
section
variable {α K:Type} {ok:List K -> α -> Bool} {key:α -> K}
theorem B0_ (l:List α):∀(k:Nat) (ks:List K),ah_ ok key ks l=(ah_ ok key ks (l.take k)&&ah_ ok key (ks++(l.take k).map key) (l.drop k)):=by
 induction l with
 | nil=>intro k ks;simp[ah_]
 | cons p r a=>
  intro k ks
  cases k with
  | zero=>simp[ah_]
  | succ k=>
   simp only[List.take_succ_cons,List.drop_succ_cons,ah_,List.map_cons];rw[a k (ks++[key p])];simp only[Bool.and_assoc,List.append_assoc,List.singleton_append]
theorem B1_ (l:List α) (p:α):∀ks:List K,ah_ ok key ks (l++[p])=(ah_ ok key ks l&&ok (ks++l.map key) p):=by
 induction l with
 | nil=>intro ks;simp[ah_]
 | cons q r a=>
  intro ks;simp only[List.cons_append,ah_,List.map_cons,a,Bool.and_assoc,List.append_assoc];simp
theorem to_ {l:List α} {k:Nat} {x:α} (a:l[k]?=some x) (h:ok ((l.take k).map key) x=false):ah_ ok key [] l=false:=by rw[B0_ l k [],mi_ a,ah_,List.nil_append,h];simp
theorem v4_ {l:List α} {k:Nat} {x:α} (b:l[k]?=some x) (h:ok ((l.take k).map key) x=true) (a:ah_ ok key [] (l.take k)=true):ah_ ok key [] (l.take (k+1))=true:=by rw[f_ b,B1_,a,List.nil_append,h];rfl
theorem v5_ {l:List α} (h:ah_ ok key [] l=true) {k:Nat} {x:α} (a:l[k]?=some x):ok ((l.take k).map key) x=true:=by
 cases hok:ok ((l.take k).map key) x with
 | true=>rfl
 | false=>rw[to_ a hok]at h;cases h
end
def okN (ids:List Int) (n:i_):Bool:=decide (0<=n.id)&&(!inB ids n.id&&(a2_ [] n.labels&&(decide (n.labels.length<=65536)&&ak_ n.props)))
def okE (ns:List Int) (ids:List Int) (e:l_):Bool:=decide (0<=e.id)&&(!inB ids e.id&&(inB ns e.src&&(inB ns e.dst&&(am_ e.type&&ak_ e.props))))
def ch_ (g:u_):Bool:=decide (g.nodes.length<=131072/\g.edges.length<=65536)&&(ah_ okN i_.id [] g.nodes&&ah_ (okE (g.nodes.map i_.id)) l_.id [] g.edges)
def bw_ {α a : Type} (R:α -> a -> Prop) (l:List α) (m:List a):Prop:=l.length=m.length/\∀(i:Nat) (x:α) (y:a),l[i]?=some x->m[i]?=some y->R x y
theorem bw_.nil {α a : Type} (R:α -> a -> Prop):bw_ R ([]:List α) []:=⟨rfl,λi x y h=>by simp at h⟩
theorem bw_.snoc {α d : Type} {R:α -> d -> Prop} {l:List α} {m:List d} {x:α} {y:d} (h:bw_ R l m) (e:R x y):bw_ R (l++[x]) (m++[y]):=by
 refine⟨by simp[h.1],λi a b c hb=>?_⟩;rcases Nat.lt_or_ge i l.length with hi | hi
 ·rw[List.getElem?_append_left hi]at c;rw[List.getElem?_append_left (by rw[<-h.1];exact hi)]at hb;exact h.2 i a b c hb
 ·rw[List.getElem?_append_right hi]at c;rw[List.getElem?_append_right (by rw[<-h.1];exact hi),<-h.1]at hb;have h0:i-l.length=0:=by have:=b8_ c;simp at this;omega
  rw[h0]at c hb;simp at c hb;subst c hb;exact e
def Lw_ (l c:List i_):Prop:=∃m,bw_ kc_ l m/\c.Perm m/\c.Pairwise (λa b=>¬dy_ b.id a.id<0)
def Lx_ (l c:List l_):Prop:=∃m,bw_ kd_ l m/\c.Perm m/\c.Pairwise (λa b=>¬dy_ b.id a.id<0)
def hs_ (g a:u_):Prop:=Lw_ g.nodes a.nodes/\Lx_ g.edges a.edges
def Iq_ (e:l_) (a d:Int):Bool:=(d==1&&e.src==a) || ((d == -1&&e.dst==a) || (d==0&&(e.src==a || e.dst==a)))
def er_ (es:List l_) (a d:Int):List Nat:=(List.range es.length).filter λi=>(es[i]?.map λe=>Iq_ e a d).getD false
theorem B2_ (es:List l_) (e:l_) (a d:Int):er_ (es++[e]) a d=er_ es a d++(if Iq_ e a d then [es.length] else []):=by
 unfold er_;rw[List.length_append,List.length_singleton,List.range_succ,List.filter_append];congr 1
 ·apply List.filter_congr;intro i hi;rw[List.getElem?_append_left (List.mem_range.1 hi)]
 ·simp[List.filter_cons]
def as_ (w:World) (m:Nat) (ids:List Int):Prop:=∃D:DataW Unit,w.ownsMap Tryz.prog 2 (plainElem Tryz.prog 3) m ids.length D/\IdsOf VI ix_ D ids
theorem as_.turn {w w':World} {m:Nat} {ids:List Int} {S:Nat->Prop} (h:as_ w m ids) (c:Turn S w w') (b:¬S m):as_ w' m ids:=by obtain⟨D,h1,a⟩:=h;exact⟨D,c.map h1 b,a⟩
theorem as_.lt {w:World} {m:Nat} {ids:List Int} (h:as_ w m ids):m<w.heap.size:=by obtain⟨D,⟨es,a,hb,_⟩,_⟩:=h;exact b_ hb
structure f3_ (w:World) (lo p:Nat) (g:u_) (Ns Es:Value) (mh mt ma mid n:Nat):Prop where
 blk:w.heap[p]?=some (.cells #[Ns,Es,.map (some mh),.map (some mt),.map (some ma)] 143 (0,0))
 nodes:SlR 3 NoR w (λb=>lo<=b/\b<mid) g.nodes Ns
 edges:SlR 5 EdR w (λb=>lo<=b/\b<mid) g.edges Es
 types:as_ w mt (g.edges.map l_.id)
 at_:as_ w ma (g.nodes.map i_.id)
 hops:ds_ w mid mh n (er_ g.edges)
 loc:lo<=p/\lo<=mh/\lo<=mt/\lo<=ma/\mid<=w.heap.size/\mh<mid
 few:n<=1000000
def gk_ (w:World) (lo p:Nat) (g:u_):Prop:=∃Ns Es b c a mid n,f3_ w lo p g Ns Es b c a mid n
theorem f3_.turn {w w':World} {lo p:Nat} {g:u_} {Ns Es:Value} {f j e mid n:Nat} {S:Nat->Prop} (h:f3_ w lo p g Ns Es f j e mid n) (a:Turn S w w') (c:∀b,lo<=b->b<w.heap.size->¬S b):f3_ w' lo p g Ns Es f j e mid n:=by
 have s:=b_ h.blk;obtain⟨m,o,q,t,x,u⟩:=h.loc;have A:=h.hops
 refine⟨(a.block p s (c p m s)).trans h.blk,h.nodes.turn NoR.good a (λb hb=>by omega) (λb hb=>c b hb.1 (by omega)),h.edges.turn EdR.good a (λb hb=>by omega) (λb hb=>c b hb.1 (by omega)),
  h.types.turn a (c j q h.types.lt),h.at_.turn a (c e t h.at_.lt),?_,⟨m,o,q,t,Nat.le_trans x a.size,u⟩,h.few⟩
 have r:Turn (λb=>S b/\b<w.heap.size) w w':=⟨a.os,a.tape,a.output,a.size,λi hi y=>a.block i hi (λv=>y ⟨v,hi⟩)⟩;exact A.turn r (λd=>c f o d.2 d.1) (λb hb d=>c b (by omega) d.2 d.1)
theorem gk_.turn {w w':World} {lo p:Nat} {g:u_} {S:Nat->Prop} (h:gk_ w lo p g) (e:Turn S w w') (d:∀b,lo<=b->b<w.heap.size->¬S b):gk_ w' lo p g:=by obtain⟨Ns,Es,c,f,a,mid,n,h⟩:=h;exact⟨Ns,Es,c,f,a,mid,n,h.turn e d⟩
theorem gk_.below {w w':World} {lo p:Nat} {g:u_} (h:gk_ w lo p g) (hb:Below w.heap.size w w'):gk_ w' lo p g:=h.turn (Turn.of_below hb) (λb _ h1 a=>by omega)
def f4_ (g:u_):Prop:=g.nodes.length<=2000000/\g.edges.length<=2000000/\(∀n,n∈g.nodes->tn_ n/\VI n.id)/\∀e,e∈g.edges->Lu_ e/\VI e.id/\VI e.src/\VI e.dst
def rm_ (g:u_) (w:World) (e:Ending) (w':World):Prop:=
 Below w.heap.size w w'/\((ch_ g=false/\e = .returned (.tuple #[.pointer none,.int .i64 21])) \/
  (ch_ g=true/\∃p a,e = .returned (.tuple #[.pointer (some ⟨p,0,none⟩),.int .i64 0])/\gk_ w' w.heap.size p a/\hs_ g a))
end
section
open Go Go.RowKit Go.Maps Go.WideMaps Go.MapKept
theorem pk_:(Tryz.prog.info? 72).map (λi=>(i.zero,i.size,i.bytes))=some (some (.agg #[.int .i64 0,.slice none 0 0,.slice none 0 0]),3,56):=by kernel_rfl
theorem pl_:(Tryz.prog.info? 74).map (λi=>(i.zero,i.size,i.bytes))=some (some (.agg #[.int .i64 0,.int .i64 0,.int .i64 0,.string ⟨#[]⟩,.slice none 0 0]),5,64):=by kernel_rfl
theorem ns_ {w:World} {F:Nat->Prop} {l:List i_} {A:Option Addr} {n:Nat} (h:SRd 3 NoR w F l A n) {i:Nat} {x:i_} (q:l[i]?=some x) :
    ∃ad a d b f,A=some ad/\F ad.block/\NoR w F x #[.int .i64 x.id,.slice a x.labels.length d,.slice b x.props.length f]/\SRd 1 TxR w F x.labels a x.labels.length/\SRd 7 PaR w F x.props b x.props.length/\w.cell? (ad.add (i*3))=some (.int .i64 x.id) /\
     w.cell? ⟨(ad.add (i*3)).block,(ad.add (i*3)).off+1,none⟩=some (.slice a x.labels.length d)/\w.cell? ⟨(ad.add (i*3)).block,(ad.add (i*3)).off+2,none⟩=some (.slice b x.props.length f):=by
 obtain⟨ad,c,e,t,_,g,L,P,rfl,⟨a,d,rfl,h1,m⟩,b,f,rfl,r,j⟩:=h.at_ q;have s:=g 0 (by omega);have o:=g 1 (by omega);have p:=g 2 (by omega);rw[<-add_of_add]at o p;exact⟨ad,a,d,b,f,e,t,⟨_,_,rfl,⟨a,d,rfl,h1,m⟩,b,f,rfl,r,j⟩,m,j,s,o,p⟩
theorem nt_ {w:World} {F:Nat->Prop} {l:List l_} {A:Option Addr} {n:Nat} (h:SRd 5 EdR w F l A n) {i:Nat} {x:l_} (p:l[i]?=some x) :
    ∃ad a d,A=some ad/\F ad.block/\EdR w F x #[.int .i64 x.id,.int .i64 x.src,.int .i64 x.dst,.string x.type,.slice a x.props.length d]/\SRd 7 PaR w F x.props a x.props.length/\w.cell? (ad.add (i*5))=some (.int .i64 x.id) /\
     w.cell? ⟨(ad.add (i*5)).block,(ad.add (i*5)).off+1,none⟩=some (.int .i64 x.src)/\w.cell? ⟨(ad.add (i*5)).block,(ad.add (i*5)).off+2,none⟩=some (.int .i64 x.dst) /\
     w.cell? ⟨(ad.add (i*5)).block,(ad.add (i*5)).off+3,none⟩=some (.string x.type)/\w.cell? ⟨(ad.add (i*5)).block,(ad.add (i*5)).off+4,none⟩=some (.slice a x.props.length d):=by
 obtain⟨ad,c,e,s,_,b,P,rfl,a,d,rfl,q,g⟩:=h.at_ p;have r:=b 0 (by omega);have j:=b 1 (by omega);have m:=b 2 (by omega);have o:=b 3 (by omega);have f:=b 4 (by omega);rw[<-add_of_add]at j m o f;exact⟨ad,a,d,e,s,⟨_,rfl,a,d,rfl,q,g⟩,g,r,j,m,o,f⟩
structure gl_ (w:World) (z:Nat) (NV EV:Value) (l:List i_) (ids:List Int) (k:Nat) (ns:List i_) (Ns:Value) (wr:World):Prop where
 below:Below z w wr
 box:wr.heap[z]?=some (.cells #[NV,EV] 54 (0,0))
 m1:wr.heap[z+1]?=some (.map #[] 0)
 m2:wr.heap[z+2]?=some (.map #[] 0)
 m3:wr.heap[z+3]?=some (.map #[] 0)
 store:wr.heap[z+4]?=some (.cells #[Ns,.slice none 0 0,.map (some (z+1)),.map (some (z+2)),.map (some (z+3))] 143 (0,0))
 set:a5_ 2 VI ix_ wr (z+5) ids
 own:x_ 72 3 NoR wr (λb=>z+6<=b/\b<wr.heap.size) ns Ns
 all:bw_ kc_ (l.take k) ns
 ok:ah_ okN i_.id [] (l.take k)=true
theorem gl_.on {w:World} {z:Nat} {c d:Value} {l:List i_} {ids:List Int} {k:Nat} {ns:List i_} {Ns:Value} {wr w2:World} (h:gl_ w z c d l ids k ns Ns wr) (hb:Below wr.heap.size wr w2):gl_ w z c d l ids k ns Ns w2:=by
 have hz:z+5<wr.heap.size:=h.set.lt
 exact⟨h.below.trans (hb.mono (by omega)),(hb.block _ (by omega)).trans h.box,(hb.block _ (by omega)).trans h.m1,(hb.block _ (by omega)).trans h.m2,(hb.block _ (by omega)).trans h.m3,(hb.block _ (by omega)).trans h.store,h.set.below hb,
  (h.own.turn NoR.good (Turn.of_below hb) (λb hb=>hb.2) (λb hb h=>by omega)).mono NoR.good (λb a=>⟨a.1,Nat.lt_of_lt_of_le a.2 hb.size⟩),h.all,h.ok⟩
theorem gl_.put {w:World} {z:Nat} {d e:Value} {l:List i_} {ids ids':List Int} {k:Nat} {ns:List i_} {Ns:Value} {wr w2:World} (h:gl_ w z d e l ids k ns Ns wr) (a:Turn (λb=>b=z+5) wr w2) (f:a5_ 2 VI ix_ w2 (z+5) ids'):gl_ w z d e l ids' k ns Ns w2:=by
 have hz:z+5<wr.heap.size:=h.set.lt
 exact⟨h.below.trans (a.below (B:=z) (λi _ hi=>by omega) (by omega)),(a.block _ (by omega) (by omega)).trans h.box,(a.block _ (by omega) (by omega)).trans h.m1,(a.block _ (by omega) (by omega)).trans h.m2,(a.block _ (by omega) (by omega)).trans h.m3,(a.block _ (by omega) (by omega)).trans h.store,f,
  (h.own.turn NoR.good a (λb hb=>hb.2) (λb hb h=>by omega)).mono NoR.good (λb c=>⟨c.1,Nat.lt_of_lt_of_le c.2 a.size⟩),h.all,h.ok⟩
theorem Ky_ {g:u_} (h:ah_ okN i_.id [] g.nodes=false):ch_ g=false:=by unfold ch_;rw[h];simp
theorem ld_ {v:h_} (h:ba_ v=true):v.list=[]:=by
 unfold ba_ at h;rw[Bool.and_eq_true]at h;obtain⟨h1,c⟩:=h;obtain⟨k,b,n,t,x,l⟩:=v;simp only[h_.kind,Bool.or_eq_true,beq_iff_eq]at c;simp only[h_.list];have e:k≠5:=by rcases c with h | h | h | h<;>omega
 unfold K_ at h1
 have a:∀{d:Bool} {n':Int} {t' x':ByteArray},bh_ k b n t x l d n' t' x'=true->l=[]:=λh=>by
  unfold bh_ at h;simp only[Bool.and_eq_true,Bool.or_eq_true,decide_eq_true_eq]at h;rcases h.2.2.2.2 with h | h
  ·exact List.eq_nil_of_length_eq_zero h
  ·exact absurd h e
 rcases c with rfl | rfl | rfl | rfl
 ·simp at h1;exact a h1
 ·simp at h1;exact a h1
 ·simp at h1;exact a h1.2
 ·simp at h1;exact a h1.2
theorem v6_ {v:h_} (h:a0_ v=true):∀x,x∈v.list->x.list=[]:=by
 unfold a0_ at h;by_cases b:v.kind=5
 ·rw[if_pos b,Bool.and_eq_true,List.all_eq_true]at h;exact λx a=>ld_ (h.2 x a)
 ·rw[if_neg b]at h;rw[ld_ h];intro x a;cases a
theorem v7_ {l:List C_}:∀{ks:List ByteArray},a1_ ks l=true->∀p,p∈l->vx_ p:=by
 induction l with
 | nil=>intro ks _ p a;cases a
 | cons q r b=>
  intro ks h p a;simp only[a1_,Bool.and_eq_true]at h;rcases List.mem_cons.1 a with rfl | a
  ·exact v6_ h.1.2.2
  ·exact b h.2 p a
theorem gm_ {l:List C_} (h:ak_ l=true):∀p,p∈l->vx_ p:=by unfold ak_ at h;rw[Bool.and_eq_true]at h;exact v7_ h.1
theorem Ir_ (w:World) (f e a d c b:Obj):(((((((w.alloc f).alloc e).alloc a).alloc d).alloc c).alloc b).heap=w.heap++#[f,e,a,d,c,b]):=by simp only[Go.Sort.alloc_eq_grow,Go.Sort.grow_grow];rfl
theorem ht_ {h:Array Obj} {os:Array Obj} {z i:Nat} {o:Obj} (hz:h.size=z) (a:os[i]?=some o):(h++os)[z+i]?=some o:=by subst hz;rw[Array.getElem?_append_right (Nat.le_add_right _ _),Nat.add_sub_cancel_left];exact a
theorem B3_ (w:World) (b c a:Obj):(((w.alloc b).alloc c).alloc a).heap=w.heap++#[b,c,a]:=by simp only[Go.Sort.alloc_eq_grow,Go.Sort.grow_grow];rfl
theorem Is_ {K:Type} [DecidableEq K] {b:TypeId} {V:K->Prop} {a:K->Lit} {w:World} {m:Nat} (h:w.heap[m]?=some (.map #[] 0)):a5_ b V a w m ([]:List K):=
 ⟨.map [],⟨#[],0,h,⟨by simp,stamped_empty 0,by simp⟩,Nat.le_refl _,rfl⟩,λ_ _=>rfl⟩
theorem Gc_ {w w':World} {z:Nat} (h:M_ w) (hz:w.heap.size=z) (hb:Below z w w'):M_ w':=g_ h (by rw[hz];exact hb)
theorem gl_.more {w:World} {z:Nat} {J M:Value} {l:List i_} {ids:List Int} {k:Nat} {ns:List i_} {j:Option Addr} {m:Nat} {w5 w6 a:World} {cs:Nat->Array Value} {x n':i_} {c:Array Value} {f r:Nat}
    (h:gl_ w z J M l ids k ns (.slice j k m) w5) (u:ns.length=k) (o:∀b,(Value.slice j k m).ownBlock=some b->z+6<=b/\b<w5.heap.size) (N:∀i,i<k->(cs i).size=3) (W:∀i x,ns[i]?=some x->NoR w5 (λb=>(z+6<=b/\b<w5.heap.size)/\(Value.slice j k m).ownBlock≠some b) x (cs i))
    (d:l[k]?=some x) (t:Below w5.heap.size w5 w6) (D:kc_ x n') (O:NoR w6 (λb=>w5.heap.size<=b/\b<w6.heap.size) n' c) (V:c.size=3) (v:w6.grownBy a (Value.slice j k m).ownBlock) (I:(Value.slice j k m).ownBlock=some f\/f=w6.heap.size+1)
    (L:a.ownsRow 0 72 3 (.slice (some ⟨f,0,none⟩) (k+1) r) (k+1) (I_ cs k++c.toList)) (S:ah_ okN i_.id [] (l.take (k+1))=true) :
    gl_ w z J M l ids (k+1) (ns++[n']) (.slice (some ⟨f,0,none⟩) (k+1) r) (a.setCell ⟨z+4,0,none⟩ (.slice (some ⟨f,0,none⟩) (k+1) r)):=by
 have hz:z+5<w5.heap.size:=h.set.lt;have X:w5.heap.size<=w6.heap.size:=t.size;have Z:w6.heap.size<=a.heap.size:=v.size;have Y:f<a.heap.size:=(L.lt f rfl).2;have q:=h.on t
 have A:=g9_ (w5:=w6) (w6:=a) (R:=NoR) (E:=72) (sz:=3) (F:=λb=>z+6<=b/\b<w5.heap.size) (G:=λb=>w5.heap.size<=b/\b<w6.heap.size) (l:=ns) (x:=n') (s:=.slice j k m) (c:=c) (g4:=f) (c4:=r) (cs:=cs) NoR.good
  (λi hi=>N i (by omega)) (λi y T=>NoR.good.keep (W i y T) (λp U=>t.cell (by have:=U.1.2;omega))) O V (λb hb e=>by have:=(o b e).2;have:=hb.1;omega) (λb hb=>by have:=hb.2;omega) (λb hb=>hb.2) (by rw[u];exact L) v (by rcases I with e | e;exact .inl e;exact .inr (by omega))
 rw[u]at A
 have C:Turn (λb=>some b=(Value.slice j k m).ownBlock\/b=z+4) w6 (a.setCell ⟨z+4,0,none⟩ (.slice (some ⟨f,0,none⟩) (k+1) r)):=
  ((Turn.of_grown v).mono (λb _ hb=>.inl hb)).trans (((Turn.refl (λb=>b=z+4) a).setCell (p:=⟨z+4,0,none⟩) (.inr rfl) _).mono (λb _ hb=>.inr hb))
 have g:∀b,b<z+6->b≠z+4->(a.setCell ⟨z+4,0,none⟩ (.slice (some ⟨f,0,none⟩) (k+1) r)).heap[b]?=w6.heap[b]?:=λb hb P=>C.block b (by omega) (λd=>by
  rcases d with d | d
  ·have:=(o b d.symm).1;omega
  ·exact P d)
 refine⟨q.below.trans (C.below (B:=z) (λi _ hi=>?_) (by omega)),(g _ (by omega) (by omega)).trans q.box,(g _ (by omega) (by omega)).trans q.m1,(g _ (by omega) (by omega)).trans q.m2,(g _ (by omega) (by omega)).trans q.m3,?_,q.set.turn C (λd=>?_),?_,?_,S⟩
 ·rcases hi with hi | hi
  ·have:=(o i hi.symm).1;omega
  ·omega
 ·exact heap_setCell_same a (z+4) 0 _ _ _ ((v.block (z+4) (by omega) (λe=>by have:=(o (z+4) e.symm).1;omega)).trans q.store)
 ·rcases d with d | d
  ·have:=(o (z+5) d.symm).1;omega
  ·omega
 ·refine (A.turn NoR.good ((Turn.refl (λb=>b=z+4) a).setCell (p:=⟨z+4,0,none⟩) (.inr rfl) _) (λb hb=>?_) (λb hb e=>?_)).mono NoR.good λb hb=>?_
  ·rcases hb with hb | hb | hb
   ·omega
   ·omega
   ·omega
  ·rcases hb with hb | hb | hb
   ·omega
   ·omega
   ·rcases I with h1 | h1
    ·have:=(o f h1).1;omega
    ·omega
  ·show z+6<=b/\b<(a.setCell _ _).heap.size;simp only[World.size_setCell];rcases hb with hb | hb | hb
   ·omega
   ·omega
   ·rcases I with h1 | h1
    ·have:=(o f h1).1;omega
    ·omega
 ·rw[f_ d];exact h.all.snoc D
structure gn_ (w:World) (z z2:Nat) (nids:List Int) (NS:List i_) (Ns:Value) (l:List l_) (ids:List Int) (k:Nat) (es:List l_) (Es:Value) (wr:World):Prop where
 below:Below z w wr
 m1:wr.heap[z+1]?=some (.map #[] 0)
 m2:wr.heap[z+2]?=some (.map #[] 0)
 m3:wr.heap[z+3]?=some (.map #[] 0)
 store:wr.heap[z+4]?=some (.cells #[Ns,Es,.map (some (z+1)),.map (some (z+2)),.map (some (z+3))] 143 (0,0))
 nset:a5_ 2 VI ix_ wr (z+5) nids
 set:a5_ 2 VI ix_ wr z2 ids
 far:z+6<=z2
 nodes:x_ 72 3 NoR wr (λb=>z+6<=b/\b<z2) NS Ns
 own:x_ 74 5 EdR wr (λb=>z2+1<=b/\b<wr.heap.size) es Es
 all:bw_ kd_ (l.take k) es
 ok:ah_ (okE nids) l_.id [] (l.take k)=true
section
variable {w:World} {z z2:Nat} {nids:List Int} {NS:List i_} {Ns:Value} {l:List l_} {ids ids':List Int} {k:Nat} {es:List l_} {Es:Value} {wr w2:World}
theorem gn_.on (h:gn_ w z z2 nids NS Ns l ids k es Es wr) (hb:Below wr.heap.size wr w2):gn_ w z z2 nids NS Ns l ids k es Es w2:=by
 have hz:z2<wr.heap.size:=h.set.lt;have c:=h.far
 exact⟨h.below.trans (hb.mono (by omega)),(hb.block _ (by omega)).trans h.m1,(hb.block _ (by omega)).trans h.m2,(hb.block _ (by omega)).trans h.m3,(hb.block _ (by omega)).trans h.store,h.nset.below hb,h.set.below hb,c,
  h.nodes.turn NoR.good (Turn.of_below hb) (λb hb=>by omega) (λb hb h=>by omega),
  (h.own.turn EdR.good (Turn.of_below hb) (λb hb=>hb.2) (λb hb h=>by omega)).mono EdR.good (λb a=>⟨a.1,Nat.lt_of_lt_of_le a.2 hb.size⟩),h.all,h.ok⟩
theorem gn_.put (h:gn_ w z z2 nids NS Ns l ids k es Es wr) (a:Turn (λb=>b=z2) wr w2) (e:a5_ 2 VI ix_ w2 z2 ids'):gn_ w z z2 nids NS Ns l ids' k es Es w2:=by
 have hz:z2<wr.heap.size:=h.set.lt;have d:=h.far
 exact⟨h.below.trans (a.below (B:=z) (λi _ hi=>by omega) (by omega)),(a.block _ (by omega) (by omega)).trans h.m1,(a.block _ (by omega) (by omega)).trans h.m2,(a.block _ (by omega) (by omega)).trans h.m3,(a.block _ (by omega) (by omega)).trans h.store,h.nset.turn a (by omega),e,d,
  h.nodes.turn NoR.good a (λb hb=>by omega) (λb hb h=>by omega),
  (h.own.turn EdR.good a (λb hb=>hb.2) (λb hb h=>by omega)).mono EdR.good (λb c=>⟨c.1,Nat.lt_of_lt_of_le c.2 a.size⟩),h.all,h.ok⟩
end
theorem gn_.more {w:World} {z z2:Nat} {nids:List Int} {NS:List i_} {Ns:Value} {l:List l_} {ids:List Int} {k:Nat} {es:List l_} {j:Option Addr} {m:Nat} {w5 w6 a:World} {cs:Nat->Array Value} {x n':l_} {c:Array Value} {d r:Nat}
    (h:gn_ w z z2 nids NS Ns l ids k es (.slice j k m) w5) (A:es.length=k) (t:∀b,(Value.slice j k m).ownBlock=some b->z2+1<=b/\b<w5.heap.size) (N:∀i,i<k->(cs i).size=5) (W:∀i x,es[i]?=some x->EdR w5 (λb=>(z2+1<=b/\b<w5.heap.size)/\(Value.slice j k m).ownBlock≠some b) x (cs i))
    (q:l[k]?=some x) (v:Below w5.heap.size w5 w6) (J:kd_ x n') (O:EdR w6 (λb=>w5.heap.size<=b/\b<w6.heap.size) n' c) (V:c.size=5) (D:w6.grownBy a (Value.slice j k m).ownBlock) (L:(Value.slice j k m).ownBlock=some d\/d=w6.heap.size+1)
    (M:a.ownsRow 0 74 5 (.slice (some ⟨d,0,none⟩) (k+1) r) (k+1) (I_ cs k++c.toList)) (P:ah_ (okE nids) l_.id [] (l.take (k+1))=true) :
    gn_ w z z2 nids NS Ns l ids (k+1) (es++[n']) (.slice (some ⟨d,0,none⟩) (k+1) r) (a.setCell ⟨z+4,1,none⟩ (.slice (some ⟨d,0,none⟩) (k+1) r)):=by
 have hz:z2<w5.heap.size:=h.set.lt;have S:=h.far;have X:w5.heap.size<=w6.heap.size:=v.size;have Z:w6.heap.size<=a.heap.size:=D.size;have Y:d<a.heap.size:=(M.lt d rfl).2;have o:=h.on v
 have I:=g9_ (w5:=w6) (w6:=a) (R:=EdR) (E:=74) (sz:=5) (F:=λb=>z2+1<=b/\b<w5.heap.size) (G:=λb=>w5.heap.size<=b/\b<w6.heap.size) (l:=es) (x:=n') (s:=.slice j k m) (c:=c) (g4:=d) (c4:=r) (cs:=cs) EdR.good
  (λi hi=>N i (by omega)) (λi y T=>EdR.good.keep (W i y T) (λp U=>v.cell (by have:=U.1.2;omega))) O V (λb hb e=>by have:=(t b e).2;have:=hb.1;omega) (λb hb=>by have:=hb.2;omega) (λb hb=>hb.2) (by rw[A];exact M) D (by rcases L with e | e;exact .inl e;exact .inr (by omega))
 rw[A]at I
 have u:Turn (λb=>some b=(Value.slice j k m).ownBlock\/b=z+4) w6 (a.setCell ⟨z+4,1,none⟩ (.slice (some ⟨d,0,none⟩) (k+1) r)):=
  ((Turn.of_grown D).mono (λb _ hb=>.inl hb)).trans (((Turn.refl (λb=>b=z+4) a).setCell (p:=⟨z+4,1,none⟩) (.inr rfl) _).mono (λb _ hb=>.inr hb))
 have f:∀b,b<z2+1->b≠z+4->¬(some b=(Value.slice j k m).ownBlock\/b=z+4):=λb hb C q=>by
  rcases q with q | q
  ·have:=(t b q.symm).1;omega
  ·exact C q
 have g:∀b,b<z2+1->b≠z+4->(a.setCell ⟨z+4,1,none⟩ (.slice (some ⟨d,0,none⟩) (k+1) r)).heap[b]?=w6.heap[b]?:=λb hb C=>u.block b (by omega) (f b hb C);refine⟨o.below.trans (u.below (B:=z) (λi _ hi=>?_) (by omega)),(g _ (by omega) (by omega)).trans o.m1,(g _ (by omega) (by omega)).trans o.m2,(g _ (by omega) (by omega)).trans o.m3,?_,o.nset.turn u (f _ (by omega) (by omega)),o.set.turn u (f _ (by omega) (by omega)),S,o.nodes.turn NoR.good u (λb hb=>by omega) (λb hb=>f b (by omega) (by omega)),?_,?_,P⟩
 ·rcases hi with hi | hi
  ·have:=(t i hi.symm).1;omega
  ·omega
 ·exact heap_setCell_same a (z+4) 1 _ _ _ ((D.block (z+4) (by omega) (λe=>by have:=(t (z+4) e.symm).1;omega)).trans o.store)
 ·refine (I.turn EdR.good ((Turn.refl (λb=>b=z+4) a).setCell (p:=⟨z+4,1,none⟩) (.inr rfl) _) (λb hb=>?_) (λb hb e=>?_)).mono EdR.good λb hb=>?_
  ·rcases hb with hb | hb | hb
   ·omega
   ·omega
   ·omega
  ·rcases hb with hb | hb | hb
   ·omega
   ·omega
   ·rcases L with h1 | h1
    ·have:=(t d h1).1;omega
    ·omega
  ·show z2+1<=b/\b<(a.setCell _ _).heap.size;simp only[World.size_setCell];rcases hb with hb | hb | hb
   ·omega
   ·omega
   ·rcases L with h1 | h1
    ·have:=(t d h1).1;omega
    ·omega
 ·rw[f_ q];exact h.all.snoc J
theorem It_ {g:u_} (h:ah_ (okE (g.nodes.map i_.id)) l_.id [] g.edges=false):ch_ g=false:=by unfold ch_;rw[h];simp
theorem gl_.next {w:World} {z:Nat} {c d:Value} {l:List i_} {nids:List Int} {k:Nat} {ns:List i_} {Ns:Value} {wr:World} (h:gl_ w z c d l nids k ns Ns wr) (le:List l_) :
    gn_ w z wr.heap.size nids ns Ns le [] 0 [] (.slice none 0 0) (wr.alloc (.map #[] 0)):=by
 have hz:z+5<wr.heap.size:=h.set.lt;have a:=h.on ((Below.refl wr.heap.size wr).alloc (Nat.le_refl _) (.map #[] 0));exact⟨a.below,a.m1,a.m2,a.m3,a.store,a.set,a5_.made _ _ _ _,by omega,h.own.turn NoR.good (Turn.of_below ((Below.refl wr.heap.size wr).alloc (Nat.le_refl _) (.map #[] 0))) (λb hb=>hb.2) (λb hb h=>by omega),x_.nil ..,bw_.nil _,rfl⟩
theorem le_ (a b:Int):(dy_ a b<0)=(a<b):=by
 unfold dy_;by_cases h1:a<b
 ·simp[h1]
 ·by_cases c:b<a<;>simp[h1,c]
structure ItN where
 n:i_
 A:Option Addr
 c:Nat
 B:Option Addr
 d:Nat
instance:Inhabited ItN:=⟨⟨⟨0,[],[]⟩,none,0,none,0⟩⟩
def B4_ (x:ItN):List Value:=[.int .i64 x.n.id,.slice x.A x.n.labels.length x.c,.slice x.B x.n.props.length x.d]
structure ItE where
 e:l_
 A:Option Addr
 c:Nat
instance:Inhabited ItE:=⟨⟨⟨0,0,0,⟨#[]⟩,[]⟩,none,0⟩⟩
def B5_ (x:ItE):List Value:=[.int .i64 x.e.id,.int .i64 x.e.src,.int .i64 x.e.dst,.string x.e.type,.slice x.A x.e.props.length x.c]
theorem Gd_ (x y:ItN) (W:World):Calls Tryz.prog 95 #[.agg (B4_ x).toArray,.agg (B4_ y).toArray] W λe w'=>e = .returned (.int .i64 (dy_ x.n.id y.n.id))/\∃q b,w'=Go.Sort.grow (W.drewN q) b:=by
 have a:=q_ (λc=>vn_ x.n.id y.n.id c);generalize dy_ x.n.id y.n.id=r at a ⊢;unfold B4_;go_enter Tryz.func95,Tryz.ntmps95
 go_wp2_with fail;refine (a.o _).mono ?_;rintro e w' ⟨rfl,rfl⟩;go_wp2_with fail;go_ret;exact⟨rfl,0,_,by rw[Go.Sort.alloc_eq_grow,Go.Sort.alloc_eq_grow,Go.Sort.grow_grow];rfl⟩
theorem Ge_ (x y:ItE) (W:World):Calls Tryz.prog 98 #[.agg (B5_ x).toArray,.agg (B5_ y).toArray] W λe w'=>e = .returned (.int .i64 (dy_ x.e.id y.e.id))/\∃q b,w'=Go.Sort.grow (W.drewN q) b:=by
 have a:=q_ (λc=>vn_ x.e.id y.e.id c);generalize dy_ x.e.id y.e.id=r at a ⊢;unfold B5_;go_enter Tryz.func98,Tryz.ntmps98
 go_wp2_with fail;refine (a.o _).mono ?_;rintro e w' ⟨rfl,rfl⟩;go_wp2_with fail;go_ret;exact⟨rfl,0,_,by rw[Go.Sort.alloc_eq_grow,Go.Sort.alloc_eq_grow,Go.Sort.grow_grow];rfl⟩
theorem Ly_ {I:Type} (a : I->Int):Go.Sort.SWO (ltOf λx y:I=>dy_ (a x) (a y)) where
 irrefl x:=by unfold ltOf;rw[decide_eq_false_iff_not,le_];omega
 trans x y z h1 h2:=by unfold ltOf at *;rw [decide_eq_true_iff, le_] at *;omega
 ntrans x y z h1 h2:=by unfold ltOf at *;rw [decide_eq_false_iff_not, le_] at *;omega
theorem itN {w:World} {F:Nat->Prop} {x:i_} {c:Array Value} (h:NoR w F x c):∃a,B4_ a=c.toList/\a.n=x:=by obtain⟨L,P,rfl,⟨A,d,rfl,_⟩,B,b,rfl,_⟩:=h;exact⟨⟨x,A,d,B,b⟩,rfl,rfl⟩
theorem itE {w:World} {F:Nat->Prop} {x:l_} {c:Array Value} (h:EdR w F x c):∃a,B5_ a=c.toList/\a.e=x:=by obtain⟨P,rfl,A,b,rfl,_⟩:=h;exact⟨⟨x,A,b⟩,rfl,rfl⟩
def zg_ {α : Type} (sz:Nat) (R:bi_ α) (le:α -> α -> Prop) (F:Nat->Prop) (l:List α) (s:Value) (w:World) (e:Ending) (w':World):Prop:=
 e = .returned (.tuple #[])/\∃a:List α,(a.Perm l/\a.Pairwise le)/\SlR sz R w' F a s/\Turn (λb=>s.ownBlock=some b) w w'
def leN (a b:i_):Prop:=¬dy_ b.id a.id<0
def leE (a b:l_):Prop:=¬dy_ b.id a.id<0
theorem tp_ {w:World} {F:Nat->Prop} {l:List i_} {s:Value} (h:x_ 72 3 NoR w F l s) (c:l.length<=100000000) (i:∀b,F b->b<w.heap.size) :
    Calls Tryz.prog 94 #[s,.func (.func 95) #[] #[]] w (zg_ 3 NoR leN F l s w):=
 (o8_ Tryz.sortN NoR.good (by decide) Tryz.isAgg72 Tryz.sizeOf72 B4_ ItN.n (λ_=>rfl) (λx v d=>by simp[B4_]at d;rcases d with rfl | rfl | rfl<;>rfl) itN (λa b=>dy_ a.id b.id) (Ly_ λx:ItN=>x.n.id) 95 (enters_of Tryz.func95 (by kernel_rfl) rfl) Gd_ h c i).mono λ_ _ ⟨e,m,h1,g,j,f⟩=>⟨e,m,⟨h1,g⟩,j,f⟩
theorem B6_ {w:World} {F:Nat->Prop} {l:List l_} {s:Value} (h:x_ 74 5 EdR w F l s) (c:l.length<=100000000) (j:∀b,F b->b<w.heap.size) :
    Calls Tryz.prog 97 #[s,.func (.func 98) #[] #[]] w (zg_ 5 EdR leE F l s w):=
 (o8_ Tryz.sortE EdR.good (by decide) Tryz.isAgg74 Tryz.sizeOf74 B5_ ItE.e (λ_=>rfl) (λx v d=>by simp[B5_]at d;rcases d with rfl | rfl | rfl | rfl | rfl<;>rfl) itE (λa b=>dy_ a.id b.id) (Ly_ λx:ItE=>x.e.id) 98 (enters_of Tryz.func98 (by kernel_rfl) rfl) Ge_ h c j).mono λ_ _ ⟨f,o,h1,i,m,g⟩=>⟨f,o,⟨h1,i⟩,m,g⟩
theorem hu_ {α : Type} {ok:List Int -> α -> Bool} {key:α -> Int} (d:∀ks x,ok ks x=true->key x∉ks) {l:List α}:∀{ks:List Int},ks.Nodup->ah_ ok key ks l=true->(ks++l.map key).Nodup:=by
 induction l with
 | nil=>intro ks c _;simpa using c
 | cons x r i=>
  intro ks c h;simp only[ah_,Bool.and_eq_true]at h;have j:=d ks x h.1;have f:=i (ks:=ks++[key x]) (by rw[List.nodup_append];refine⟨c,by simp,λa g b hb e=>?_⟩;simp at hb;subst hb;exact j (e▸g)) h.2;simpa using f
theorem zh_ {ks:List Int} {x:i_} (h:okN ks x=true):x.id∉ks:=by unfold okN at h;simp only[Bool.and_eq_true,Bool.not_eq_true']at h;intro a;rw[gi_ a]at h;simp at h
theorem zi_ {ns ks:List Int} {x:l_} (h:okE ns ks x=true):x.id∉ks:=by unfold okE at h;simp only[Bool.and_eq_true,Bool.not_eq_true']at h;intro a;rw[gi_ a]at h;simp at h
theorem lf_ {α b d : Type} {R:α -> b -> Prop} {f:α -> d} {g:b -> d} (h:∀x y,R x y->g y=f x) {l:List α} {m:List b} (c:bw_ R l m):m.map g=l.map f:=by
 apply List.ext_getElem?;intro i;rw[List.getElem?_map,List.getElem?_map]
 cases hx:l[i]? with
 | none=>
  have a:m[i]?=none:=by rw[List.getElem?_eq_none_iff]at hx ⊢;rw[<-c.1];exact hx
  rw[a];rfl
 | some x=>
  have hi:=b8_ hx;have e:i<m.length:=by rw[<-c.1];exact hi
  have a:=List.getElem?_eq_getElem e;rw[a];simp[h x _ (c.2 i x _ hx a)]
theorem lg_ {α : Type} {key:α -> Int} {l m:List α} (h:l.Perm m) (a:(m.map key).Nodup):(l.map key).Nodup:=(h.map key).nodup_iff.2 a
theorem pm_ {α : Type} {key:α -> Int} {l:List α} (b:(l.map key).Nodup) {k:Nat} {x:α} (e:l[k]?=some x):key x∉(l.take k).map key:=by
 intro h;obtain⟨y,g,d⟩:=List.mem_map.1 h;obtain⟨i,hi⟩:=List.mem_iff_getElem?.1 g;have a:i<k:=by have:=b8_ hi;rw[List.length_take]at this;omega
 rw[List.getElem?_take_of_lt a]at hi;obtain⟨h1,rfl⟩:=List.getElem?_eq_some_iff.1 hi;obtain⟨f,rfl⟩:=List.getElem?_eq_some_iff.1 e;unfold List.Nodup at b;rw[List.pairwise_iff_getElem]at b;have c:=b i k (by rw[List.length_map];exact h1) (by rw[List.length_map];exact f) a;rw[List.getElem_map,List.getElem_map]at c;exact c d
theorem bw_.mem {α a : Type} {R:α -> a -> Prop} {l:List α} {m:List a} (h:bw_ R l m) {y:a} (c:y∈m):∃x,x∈l/\R x y:=by
 obtain⟨i,hi⟩:=List.mem_iff_getElem?.1 c;have d:i<l.length:=by rw[h.1];exact b8_ hi
 have b:=List.getElem?_eq_getElem d;exact⟨_,List.mem_of_getElem? b,h.2 i _ y b hi⟩
theorem B7_ {g:u_} {ns NS:List i_} (b:f4_ g) (d:ah_ okN i_.id [] g.nodes=true) (a:bw_ kc_ g.nodes ns) (c:NS.Perm ns):(NS.map i_.id).Nodup/\∀x,x∈NS->VI x.id:=by
 constructor
 ·refine lg_ c ?_;rw[lf_ (R:=kc_) (f:=i_.id) (g:=i_.id) (λx y h=>h.1) a];exact hu_ (λks x h=>zh_ h) List.nodup_nil d
 ·intro x e;obtain⟨y,j,i⟩:=a.mem (c.mem_iff.1 e);rw[i.1];exact (b.2.2.1 y j).2
theorem B8_ {g:u_} {es ES:List l_} (b:f4_ g) (e:ah_ (okE (g.nodes.map i_.id)) l_.id [] g.edges=true) (a:bw_ kd_ g.edges es) (d:ES.Perm es):(ES.map l_.id).Nodup/\∀x,x∈ES->VI x.id/\VI x.src/\VI x.dst:=by
 constructor
 ·refine lg_ d ?_;rw[lf_ (R:=kd_) (f:=l_.id) (g:=l_.id) (λx y h=>h.1) a];exact hu_ (λks x h=>zi_ h) List.nodup_nil e
 ·intro x i;obtain⟨y,j,c⟩:=a.mem (d.mem_iff.1 i);rw[c.1,c.2.1,c.2.2.1];exact (b.2.2.2 y j).2
theorem SlR.rd {α : Type} {R:bi_ α} {w:World} {F:Nat->Prop} {l:List α} {sz n c:Nat} {A:Option Addr} (h:SlR sz R w F l (.slice A n c)):SRd sz R w F l A n:=by obtain⟨d,b,e,_,a⟩:=h;injection e with h1 h2 h3;subst h1 h2;exact a
theorem as_.more {w:World} {m:Nat} {ids:List Int} (h:as_ w m ids) {x:Int} (o:VI x) (g:x∉ids) (r:ids.length<=100000000) :
    ∃w',(Instr.mapUpdate 141 (.map (some m)) (.int .i64 x) (.int .i64 ((ids.length:Nat):Int))).run Tryz.prog w = .ok () w'/\as_ w' m (ids++[x])/\Turn (λb=>b=m) w w':=by
 obtain⟨D,h1,p⟩:=h;have f:keyOf Tryz.prog 2 (.int .i64 x)=some (ix_ x):=keyOf_int_mk Tryz.underlying2 o;obtain⟨w',j,d,c⟩:=h1.store tg_ Tryz.underlying141 (by unfold maxLen;omega) f (plainElem_int (P:=Tryz.prog) (e:=3) (q:=.i64) Tryz.underlying3 (a:=((ids.length:Nat):Int)) (by simp[Lit.wf,IntKind.min,IntKind.max,IntKind.signed,IntKind.bits];omega));refine⟨w',j,⟨_,?_,ids_put vo_ vp_ p o g⟩,(Turn.of_grown c.grown).mono (λi _ h=>by injection h)⟩;rw[List.length_append,List.length_singleton];exact d
theorem as_.fresh {w:World} {m:Nat} (h:w.heap[m]?=some (.map #[] 0)):as_ w m []:=
 ⟨.map [],⟨#[],0,h,⟨by simp,stamped_empty 0,by simp⟩,Nat.le_refl _,rfl⟩,ids_empty⟩
theorem ds_.fresh {w:World} {m b:Nat} (h:w.heap[m]?=some (.map #[] 0)) (hb:m<b):ds_ w b m 0 (er_ []):=
 ⟨.map [],⟨#[],0,h,⟨by simp,stamped_empty 0,by simp⟩,Nat.le_refl _,rfl,hb,by simp,by simp⟩,λa d _ _=>rfl⟩
structure dz_ (w:World) (z mid:Nat) (NS:List i_) (ES:List l_) (Ns Es:Value) (ids eids:List Int) (n:Nat) (H:Int->Int->List Nat) (wr:World):Prop where
 below:Below z w wr
 store:wr.heap[z+4]?=some (.cells #[Ns,Es,.map (some (z+1)),.map (some (z+2)),.map (some (z+3))] 143 (0,0))
 nodes:SlR 3 NoR wr (λb=>z+6<=b/\b<mid) NS Ns
 edges:SlR 5 EdR wr (λb=>z+6<=b/\b<mid) ES Es
 at_:as_ wr (z+3) ids
 types:as_ wr (z+2) eids
 hops:ds_ wr mid (z+1) n H
 loc:z+6<=mid/\mid<=wr.heap.size
section
variable {w:World} {z mid:Nat} {NS:List i_} {ES:List l_} {Ns Es:Value} {ids eids ids' eids':List Int} {n n':Nat} {H H':Int->Int->List Nat} {wr w2:World}
theorem dz_.upd (h:dz_ w z mid NS ES Ns Es ids eids n H wr) {S:Nat->Prop} (a:Turn S wr w2) (e:∀b,S b->(z<=b/\b<z+4)\/mid<=b) (h1:as_ w2 (z+3) ids') (d:as_ w2 (z+2) eids') (j:ds_ w2 mid (z+1) n' H'):dz_ w z mid NS ES Ns Es ids' eids' n' H' w2:=by
 obtain⟨m,g⟩:=h.loc
 have c:∀b,z+4<=b->b<mid->¬S b:=λb h1 d f=>by
  rcases e b f with h | h<;>omega
 exact⟨h.below.trans (a.below (B:=z) (λi _ hi=>by rcases e i hi with h | h<;>omega) (by omega)),(a.block _ (by omega) (c _ (by omega) (by omega))).trans h.store,h.nodes.turn NoR.good a (λb hb=>by omega) (λb hb=>c b (by omega) hb.2),h.edges.turn EdR.good a (λb hb=>by omega) (λb hb=>c b (by omega) hb.2),h1,d,j,⟨m,Nat.le_trans g a.size⟩⟩
theorem dz_.on (h:dz_ w z mid NS ES Ns Es ids eids n H wr) (hb:Below wr.heap.size wr w2):dz_ w z mid NS ES Ns Es ids eids n H w2:=by have l:=h.loc;have a:Turn (λb=>wr.heap.size<=b) wr w2:=Turn.of_below hb;have c:Turn (λ_=>False) wr w2:=⟨a.os,a.tape,a.output,a.size,λi hi _=>a.block i hi (by omega)⟩;exact h.upd a (λb hb=>.inr (by omega)) (h.at_.turn c id) (h.types.turn c id) (h.hops.turn c id (λ_ _=>id))
theorem dz_.done (h:dz_ w z mid NS ES Ns Es (NS.map i_.id) (ES.map l_.id) n (er_ ES) wr) (a:n<=1000000):gk_ wr z (z+4) ⟨NS,ES⟩:=by obtain⟨d,c⟩:=h.loc;exact⟨Ns,Es,z+1,z+2,z+3,mid,n,h.store,h.nodes.mono NoR.good (λb hb=>⟨by omega,hb.2⟩),h.edges.mono EdR.good (λb hb=>⟨by omega,hb.2⟩),h.types,h.at_,h.hops,by omega,a⟩
theorem v8_ {w:World} {b:Nat} {cs:Array Value} {f:Nat×Nat} (h:w.heap[b]?=some (.cells cs 74 f)):¬gj_ w b:=λa=>absurd (a _ _ _ h) (by decide)
theorem pn_ {d g:World} {c q mid:Nat} {cs:Array Value} {f:Nat×Nat} (e:d.heap[c]?=some (.cells cs 74 f)) (h:c≠q) (i:Turn (λb=>b=q\/(mid<=b/\gj_ d b)) d g):g.heap[c]?=some (.cells cs 74 f):=
 (i.block c (b_ e) (λa=>by
  rcases a with a | a
  ·exact h a
  ·exact v8_ e a.2)).trans e
theorem vi1:VI 1:=by unfold VI;decide
theorem vi0:VI 0:=by unfold VI;decide
theorem vim:VI (-1):=by unfold VI;decide
theorem dz_.spoke (h:dz_ w z mid NS ES Ns Es ids eids n H wr) (d:ds_ w2 mid (z+1) n' H') (c:Turn (λb=>b=z+1\/(mid<=b/\gj_ wr b)) wr w2):dz_ w z mid NS ES Ns Es ids eids n' H' w2:=by
 have l:=h.loc;refine h.upd c (λb hb=>?_) (h.at_.turn c (λa=>?_)) (h.types.turn c (λa=>?_)) d
 ·rcases hb with hb | hb
  ·exact .inl ⟨by omega,by omega⟩
  ·exact .inr hb.1
 ·rcases a with a | a
  ·omega
  ·have:=a.1;omega
 ·rcases a with a | a
  ·omega
  ·have:=a.1;omega
theorem gn_.next {z2:Nat} {nids:List Int} {ns NS:List i_} {l es ES:List l_} {ids:List Int} {k:Nat} {d w5:World} (h:gn_ w z z2 nids ns Ns l ids k es Es wr)
    (p:SlR 3 NoR d (λb=>z+6<=b/\b<z2) NS Ns) (j:Turn (λb=>Ns.ownBlock=some b) wr d) (o:SlR 5 EdR w5 (λb=>z2+1<=b/\b<d.heap.size) ES Es) (c:Turn (λb=>Es.ownBlock=some b) d w5) :
    dz_ w z w5.heap.size NS ES Ns Es [] [] 0 (er_ []) w5:=by
 have hz:z2<wr.heap.size:=h.set.lt;have q:=h.far;have r:wr.heap.size<=d.heap.size:=j.size;have s:d.heap.size<=w5.heap.size:=c.size;have m:∀b,Ns.ownBlock=some b->z+6<=b/\b<z2:=λb hb=>by obtain⟨cs,_,_,g,_⟩:=h.nodes;exact g b hb
 have e:∀b,Es.ownBlock=some b->z2+1<=b:=λb hb=>by obtain⟨cs,_,_,g,_⟩:=h.own;exact (g b hb).1
 have a:∀b,b<z+6->w5.heap[b]?=wr.heap[b]?:=λb hb=>(c.block b (by omega) (λf=>by have:=e b f;omega)).trans (j.block b (by omega) (λf=>by have:=(m b f).1;omega))
 refine⟨(h.below.trans (j.below (B:=z) (λi _ hi=>by have:=(m i hi).1;omega) (by omega))).trans (c.below (B:=z) (λi _ hi=>by have:=e i hi;omega) (by omega)),(a _ (by omega)).trans h.store,
  (p.turn NoR.good c (λb hb=>by omega) (λb hb f=>by have:=e b f;omega)).mono NoR.good (λb hb=>⟨hb.1,by omega⟩),o.mono EdR.good (λb hb=>⟨by omega,by omega⟩),
  as_.fresh ((a _ (by omega)).trans h.m3),as_.fresh ((a _ (by omega)).trans h.m2),ds_.fresh ((a _ (by omega)).trans h.m1) (by omega),by omega,Nat.le_refl _⟩
end
theorem rn_ (es:List l_) (e:l_):er_ (es++[e])=(if e.dst=e.src then dt_ (dt_ (dt_ (er_ es) e.src 1 es.length) e.dst (-1) es.length) e.src 0 es.length else dt_ (dt_ (dt_ (dt_ (er_ es) e.src 1 es.length) e.dst (-1) es.length) e.src 0 es.length) e.dst 0 es.length):=by
 funext a d
 rw[B2_];by_cases i:e.dst=e.src
 ·rw[if_pos i];unfold dt_ Iq_;rw[i];by_cases b:a=e.src
  ·subst b;by_cases h1:d=1
   ·subst h1;simp
   ·by_cases c:d = -1
    ·subst c;simp
    ·by_cases f:d=0
     ·subst f;simp
     ·simp[h1,c,f]
  ·have g:e.src≠a:=λh=>b h.symm;simp[b,g]
 ·rw[if_neg i];unfold dt_ Iq_;by_cases b:a=e.src
  ·subst b;have j:e.src≠e.dst:=λh=>i h.symm;by_cases h1:d=1
   ·subst h1;simp[j]
   ·by_cases c:d = -1
    ·subst c;simp[i,j]
    ·by_cases f:d=0
     ·subst f;simp[j]
     ·simp[h1,c,f]
  ·have g:e.src≠a:=λh=>b h.symm;by_cases hb:a=e.dst
   ·subst hb;by_cases h1:d=1
    ·subst h1;simp[b,g]
    ·by_cases c:d = -1
     ·subst c;simp[b]
     ·by_cases f:d=0
      ·subst f;simp[b]
      ·simp[h1,c,f]
   ·have m:e.dst≠a:=λh=>hb h.symm;simp[b,g,hb,m]
end
section
open Go Go.RowKit
structure v9_ (w:World) (ids:List Int) (s:Value) (wr:World):Prop where
 below:Below w.heap.size w wr
 own:x_ 2 1 IxR wr (λb=>w.heap.size<=b/\b<wr.heap.size) ids s
theorem v9_.on {w:World} {ids:List Int} {s:Value} {wr w2:World} (h:v9_ w ids s wr) (hb:Below wr.heap.size wr w2):v9_ w ids s w2:=
 ⟨h.below.trans (hb.mono h.below.size),(h.own.turn IxR.good (Turn.of_below hb) (λb hb=>hb.2) (λb hb a=>by omega)).mono IxR.good (λb a=>⟨a.1,Nat.lt_of_lt_of_le a.2 hb.size⟩)⟩
theorem v9_.more {w:World} {ids:List Int} {A:Option Addr} {c:Nat} {w5 w6:World} {x:Int} {g4 c4:Nat} {cs:Nat->Array Value} (hb:Below w.heap.size w w5) (o:∀i,i<ids.length->(cs i).size=1) (s:∀i x,ids[i]?=some x->IxR w5 (λb=>(w.heap.size<=b/\b<w5.heap.size)/\(Value.slice A ids.length c).ownBlock≠some b) x (cs i))
    (m:∀g,(Value.slice A ids.length c).ownBlock=some g->w.heap.size<=g/\g<w5.heap.size)
    (r:w6.ownsRow 0 2 1 (.slice (some ⟨g4,0,none⟩) (ids.length+1) c4) (ids.length+1) (I_ cs ids.length++[.int .i64 x])) (a:w5.grownBy w6 (Value.slice A ids.length c).ownBlock) (j:(Value.slice A ids.length c).ownBlock=some g4\/w5.heap.size<=g4) (d:g4<w6.heap.size) :
    v9_ w (ids++[x]) (.slice (some ⟨g4,0,none⟩) (ids.length+1) c4) w6:=by
 have e:=g9_ (R:=IxR) (F:=λb=>w.heap.size<=b/\b<w5.heap.size) (G:=λ_=>False) (sz:=1) (E:=2) (c:=#[.int .i64 x]) (x:=x) IxR.good o s rfl rfl (λb h=>h.elim) (λb h=>h.2) (λb h=>h.elim) r a j;have t:w5.heap.size<=w6.heap.size:=a.size;refine⟨?_,e.mono IxR.good (λb f=>?_)⟩
 ·have q:=Turn.of_grown a
  exact hb.trans (q.below (B:=w.heap.size) (λi _ hi=>by
   by_cases p:w.heap.size<=i
   ·exact p
   ·exact (m i hi.symm).1) hb.size)
 ·rcases f with h | h | h
  ·exact⟨h.1,by omega⟩
  ·exact h.elim
  ·subst h;refine⟨?_,d⟩;rcases j with h | h
   ·exact (m b h).1
   ·have:=hb.size;omega
end
section
open Go Go.RowKit Go.Maps Go.WideMaps
end
section
open Go Go.RowKit
theorem po_ {α : Type} {R:bi_ α} (o:R.Good) {E sz q j lo k:Nat} {w5 w6 d:World} {xs:List α} {f:Option Addr} {h:Nat} {cs:Nat->Array Value} {x:α} {c:Array Value} {a g:Nat}
    (U:q<lo) (S:lo<=w5.heap.size) (m:xs.length=k) (A:∀b,(Value.slice f k h).ownBlock=some b->lo<=b/\b<w5.heap.size) (B:∀i,i<k->(cs i).size=sz) (N:∀i x,xs[i]?=some x->R w5 (λb=>(lo<=b/\b<w5.heap.size)/\(Value.slice f k h).ownBlock≠some b) x (cs i))
    (r:Below w5.heap.size w5 w6) (D:R w6 (λb=>w5.heap.size<=b/\b<w6.heap.size) x c) (M:c.size=sz) (u:w6.grownBy d (Value.slice f k h).ownBlock) (v:(Value.slice f k h).ownBlock=some a\/a=w6.heap.size+1)
    (C:d.ownsRow 0 E sz (.slice (some ⟨a,0,none⟩) (k+1) g) (k+1) (I_ cs k++c.toList)) :
    x_ E sz R (d.setCell ⟨q,j,none⟩ (.slice (some ⟨a,0,none⟩) (k+1) g)) (λb=>lo<=b/\b<(d.setCell ⟨q,j,none⟩ (.slice (some ⟨a,0,none⟩) (k+1) g)).heap.size) (xs++[x]) (.slice (some ⟨a,0,none⟩) (k+1) g) /\
     Turn (λb=>some b=(Value.slice f k h).ownBlock\/b=q) w6 (d.setCell ⟨q,j,none⟩ (.slice (some ⟨a,0,none⟩) (k+1) g)):=by
 have O:w5.heap.size<=w6.heap.size:=r.size;have T:w6.heap.size<=d.heap.size:=u.size;have P:a<d.heap.size:=(C.lt a rfl).2
 have t:=g9_ (w5:=w6) (w6:=d) (R:=R) (E:=E) (sz:=sz) (F:=λb=>lo<=b/\b<w5.heap.size) (G:=λb=>w5.heap.size<=b/\b<w6.heap.size) (l:=xs) (x:=x) (s:=.slice f k h) (c:=c) (g4:=a) (c4:=g) (cs:=cs) o
  (λi hi=>B i (by omega)) (λi y J=>o.keep (N i y J) (λp L=>r.cell (by have:=L.1.2;omega))) D M (λb hb e=>by have:=(A b e).2;have:=hb.1;omega) (λb hb=>by have:=hb.2;omega) (λb hb=>hb.2) (by rw[m];exact C) u (by rcases v with e | e;exact .inl e;exact .inr (by omega))
 rw[m]at t
 have I:Turn (λb=>some b=(Value.slice f k h).ownBlock\/b=q) w6 (d.setCell ⟨q,j,none⟩ (.slice (some ⟨a,0,none⟩) (k+1) g)):=
  ((Turn.of_grown u).mono (λb _ hb=>.inl hb)).trans (((Turn.refl (λb=>b=q) d).setCell (p:=⟨q,j,none⟩) (.inr rfl) _).mono (λb _ hb=>.inr hb))
 refine⟨(t.turn o ((Turn.refl (λb=>b=q) d).setCell (p:=⟨q,j,none⟩) (.inr rfl) _) (λb hb=>?_) (λb hb e=>?_)).mono o (λb hb=>?_),I⟩
 ·rcases hb with hb | hb | hb
  ·omega
  ·omega
  ·omega
 ·rcases hb with hb | hb | hb
  ·omega
  ·omega
  ·rcases v with h1 | h1
   ·have:=(A a h1).1;omega
   ·omega
 ·show lo<=b/\b<(d.setCell _ _).heap.size;simp only[World.size_setCell];rcases hb with hb | hb | hb
  ·omega
  ·omega
  ·rcases v with h1 | h1
   ·have:=(A a h1).1;omega
   ·omega
structure Pl1 (w:World) (z:Nat) (ns:List i_) (Ns:Value) (wr:World):Prop where
 below:Below z w wr
 res:wr.heap[z]?=some (.cells #[.slice none 0 0,.slice none 0 0] 54 (0,0))
 box:wr.heap[z+1]?=some (.cells #[Ns,.slice none 0 0] 54 (0,0))
 own:x_ 72 3 NoR wr (λb=>z+2<=b/\b<wr.heap.size) ns Ns
structure Pl2 (w:World) (z z2:Nat) (ns:List i_) (es:List l_) (Ns Es:Value) (wr:World):Prop where
 below:Below z w wr
 res:wr.heap[z]?=some (.cells #[.slice none 0 0,.slice none 0 0] 54 (0,0))
 box:wr.heap[z+1]?=some (.cells #[Ns,Es] 54 (0,0))
 nodes:x_ 72 3 NoR wr (λb=>z+2<=b/\b<z2) ns Ns
 own:x_ 74 5 EdR wr (λb=>z2<=b/\b<wr.heap.size) es Es
 loc:z+2<=z2/\z2<=wr.heap.size
section
variable {w:World} {z z2:Nat} {ns:List i_} {es:List l_} {Ns Es:Value} {wr w2:World}
theorem Pl1.on (h:Pl1 w z ns Ns wr) (hb:Below wr.heap.size wr w2):Pl1 w z ns Ns w2:=by have hz:=b_ h.box;exact⟨h.below.trans (hb.mono (by omega)),(hb.block _ (by omega)).trans h.res,(hb.block _ hz).trans h.box,(h.own.turn NoR.good (Turn.of_below hb) (λb hb=>hb.2) (λb hb h=>by omega)).mono NoR.good (λb a=>⟨a.1,Nat.lt_of_lt_of_le a.2 hb.size⟩)⟩
theorem Pl2.on (h:Pl2 w z z2 ns es Ns Es wr) (hb:Below wr.heap.size wr w2):Pl2 w z z2 ns es Ns Es w2:=by
 have hz:=b_ h.box;have c:=h.loc
 exact⟨h.below.trans (hb.mono (by omega)),(hb.block _ (by omega)).trans h.res,(hb.block _ hz).trans h.box,h.nodes.turn NoR.good (Turn.of_below hb) (λb hb=>by omega) (λb hb h=>by omega),
  (h.own.turn EdR.good (Turn.of_below hb) (λb hb=>hb.2) (λb hb h=>by omega)).mono EdR.good (λb a=>⟨a.1,Nat.lt_of_lt_of_le a.2 hb.size⟩),c.1,Nat.le_trans c.2 hb.size⟩
theorem Pl1.next (h:Pl1 w z ns Ns wr):Pl2 w z wr.heap.size ns [] Ns (.slice none 0 0) wr:=by have hz:=b_ h.box;exact⟨h.below,h.res,h.box,h.own,x_.nil ..,by omega,Nat.le_refl _⟩
end
theorem Pl1.more {w:World} {z k:Nat} {ns:List i_} {a:Option Addr} {d:Nat} {w5 w6 g:World} {cs:Nat->Array Value} {n':i_} {c:Array Value} {m s:Nat}
    (h:Pl1 w z ns (.slice a k d) w5) (t:ns.length=k) (u:∀b,(Value.slice a k d).ownBlock=some b->z+2<=b/\b<w5.heap.size) (A:∀i,i<k->(cs i).size=3) (I:∀i x,ns[i]?=some x->NoR w5 (λb=>(z+2<=b/\b<w5.heap.size)/\(Value.slice a k d).ownBlock≠some b) x (cs i))
    (f:Below w5.heap.size w5 w6) (C:NoR w6 (λb=>w5.heap.size<=b/\b<w6.heap.size) n' c) (G:c.size=3) (r:w6.grownBy g (Value.slice a k d).ownBlock) (F:(Value.slice a k d).ownBlock=some m\/m=w6.heap.size+1)
    (E:g.ownsRow 0 72 3 (.slice (some ⟨m,0,none⟩) (k+1) s) (k+1) (I_ cs k++c.toList)) :
    Pl1 w z (ns++[n']) (.slice (some ⟨m,0,none⟩) (k+1) s) (g.setCell ⟨z+1,0,none⟩ (.slice (some ⟨m,0,none⟩) (k+1) s)):=by
 have hz:=b_ h.box;have v:=h.on f;have J:w5.heap.size<=w6.heap.size:=f.size;have L:w6.heap.size<=g.heap.size:=r.size;obtain⟨D,y⟩:=po_ (q:=z+1) (j:=0) (lo:=z+2) NoR.good (by omega) (by omega) t u A I f C G r F E;have p:∀b,b<z+2->some b≠(Value.slice a k d).ownBlock:=λb hb e=>by have:=(u b e.symm).1;omega
 refine⟨v.below.trans (y.below (B:=z) (λi _ hi=>?_) (by omega)),(y.block _ (by omega) (λo=>?_)).trans v.res,?_,D⟩
 ·rcases hi with hi | hi
  ·have:=(u i hi.symm).1;omega
  ·omega
 ·rcases o with o | o
  ·exact p _ (by omega) o
  ·omega
 ·exact heap_setCell_same g (z+1) 0 _ _ _ ((r.block (z+1) (by omega) (p _ (by omega))).trans v.box)
theorem Pl2.more {w:World} {z z2 k:Nat} {ns:List i_} {es:List l_} {Ns:Value} {d:Option Addr} {f:Nat} {w5 w6 o:World} {cs:Nat->Array Value} {n':l_} {c:Array Value} {r v:Nat}
    (h:Pl2 w z z2 ns es Ns (.slice d k f) w5) (y:es.length=k) (A:∀b,(Value.slice d k f).ownBlock=some b->z2<=b/\b<w5.heap.size) (C:∀i,i<k->(cs i).size=5) (J:∀i x,es[i]?=some x->EdR w5 (λb=>(z2<=b/\b<w5.heap.size)/\(Value.slice d k f).ownBlock≠some b) x (cs i))
    (g:Below w5.heap.size w5 w6) (D:EdR w6 (λb=>w5.heap.size<=b/\b<w6.heap.size) n' c) (I:c.size=5) (u:w6.grownBy o (Value.slice d k f).ownBlock) (G:(Value.slice d k f).ownBlock=some r\/r=w6.heap.size+1)
    (F:o.ownsRow 0 74 5 (.slice (some ⟨r,0,none⟩) (k+1) v) (k+1) (I_ cs k++c.toList)) :
    Pl2 w z z2 ns (es++[n']) Ns (.slice (some ⟨r,0,none⟩) (k+1) v) (o.setCell ⟨z+1,1,none⟩ (.slice (some ⟨r,0,none⟩) (k+1) v)):=by
 have hz:=b_ h.box;have m:=h.loc;have s:=h.on g;have L:w5.heap.size<=w6.heap.size:=g.size;have M:w6.heap.size<=o.heap.size:=u.size;obtain⟨E,t⟩:=po_ (q:=z+1) (j:=1) (lo:=z2) EdR.good (by omega) m.2 y A C J g D I u G F;have p:∀b,b<z2->some b≠(Value.slice d k f).ownBlock:=λb hb e=>by have:=(A b e.symm).1;omega
 refine⟨s.below.trans (t.below (B:=z) (λi _ hi=>?_) (by omega)),(t.block _ (by omega) (λa=>?_)).trans s.res,?_,s.nodes.turn NoR.good t (λb hb=>by omega) (λb hb a=>?_),E,m.1,by simp only[World.size_setCell];omega⟩
 ·rcases hi with hi | hi
  ·have:=(A i hi.symm).1;omega
  ·omega
 ·rcases a with a | a
  ·exact p _ (by omega) a
  ·omega
 ·exact heap_setCell_same o (z+1) 1 _ _ _ ((u.block (z+1) (by omega) (p _ (by omega))).trans s.box)
 ·rcases a with a | a
  ·exact p _ (by omega) a
  ·omega
def zj_ (G:u_) (w:World) (e:Ending) (w':World):Prop:=
 ∃(A:Option Addr) (c:Nat) (B:Option Addr) (d:Nat) (ns:List i_) (es:List l_),e = .returned (.agg #[.slice A ns.length c,.slice B es.length d])/\Below w.heap.size w w'/\GrR w' (λb=>w.heap.size<=b/\b<w'.heap.size) ⟨ns,es⟩ (.agg #[.slice A ns.length c,.slice B es.length d])/\bw_ kc_ G.nodes ns/\bw_ kd_ G.edges es
theorem B9_ (G:u_) (lo p:Nat) (c2 ca:Value) (mh mt ma mid n0:Nat) (w:World) (a2:f3_ w lo p G c2 ca mh mt ma mid n0) (a6:f4_ G) (b3:∀n,n∈G.nodes->F3_ n) (b1:∀e,e∈G.edges->F4_ e) :
    Calls Tryz.prog 77 #[.pointer (some ⟨p,0,none⟩)] w (zj_ G w):=by
 have ay:=q_ a6;have c4:=q_ b3;have ch:=q_ b1;obtain⟨AN,cN,bo,_,b6⟩:=a2.nodes;obtain⟨AE,cE,bl,_,ba⟩:=a2.edges;obtain⟨nN,a5⟩:=a_ G.nodes.length;obtain⟨R,a4⟩:=a_ G.edges.length;have cm:nN<=2000000:=by rw[<-a5.o];exact a6.1
 have cp:R<=2000000:=by rw[<-a4.o];exact a6.2.1
 rw[a5.o]at bo b6;rw[a4.o]at bl ba;subst bo bl;have aw:=q_ a2;obtain⟨z,HZ⟩:=a_ w.heap.size;have c1:=q_ (b6.mono NoR.good (F':=λb=>b<z) (λb hb=>by have:=a2.loc;have:=HZ.o;omega));have c9:=q_ (ba.mono EdR.good (F':=λb=>b<z) (λb hb=>by have:=a2.loc;have:=HZ.o;omega));have ce:p<z:=by rw[<-HZ.o];exact b_ a2.blk
 clear a2 a6 b3 b1 b6 ba;obtain⟨w1,aq⟩:=a_ ((w.alloc (.cells #[.slice none 0 0,.slice none 0 0] 54)).alloc (.cells #[.slice none 0 0,.slice none 0 0] 54));have bp:=q_ (show Below w.heap.size w w1 from by rw[<-aq.o];exact D_ w _ _)
 have c0:=q_ (show Pl1 w z [] (.slice none 0 0) w1 from by
  refine⟨by rw[<-HZ.o];exact bp.o,?_,?_,x_.nil ..⟩
  ·rw[<-aq.o,Below.heap_alloc _ _ _ (by rw[<-HZ.o];simp),<-HZ.o];exact heap_alloc_new w _
  ·have:=heap_alloc_new (w.alloc (.cells #[.slice none 0 0,.slice none 0 0] 54)) (.cells #[.slice none 0 0,.slice none 0 0] 54);rw[aq.o]at this;simpa [HZ.o] using this)
 have x0:w1.cell? ⟨p,0,none⟩=some (.slice AN nN cN):=(bp.o.cell (b_ aw.o.blk)).trans (cell_of_heap aw.o.blk 0);go_enter Tryz.func77,Tryz.ntmps77
 go_upto_region 2 with fail;rw[HZ.o,aq.o];go_wp2_with fail;clear x0;go_loopw [13] (λs wx=>∃(k:Nat) (xs:List i_) (Xs:Value),k<=nN/\s = .int .i64 (k:Nat)/\Q_ (Pl1 w z xs Xs wx/\bw_ kc_ (G.nodes.take k) xs)) (λs _=>nN-(intOf s).toNat)
 case atStart=>exact⟨0,[],_,by omega,rfl,q_ ⟨c0.o,by rw[List.take_zero];exact bw_.nil _⟩⟩
 case round=>
  obtain⟨k,xs,Xs,hk,rfl,Z⟩:=hrel;have c:=q_ Z.o.1;have t:=q_ Z.o.2;clear Z;by_cases b7:k<nN
  ·obtain⟨x,hx⟩:∃x,G.nodes[k]?=some x:=⟨G.nodes[k]'(by rw[a5.o];exact b7),List.getElem?_eq_getElem _⟩;have HX:=q_ hx;have az:=q_ (ay.o.2.2.1 x (List.mem_of_getElem? hx));have b0:=q_ (c4.o x (List.mem_of_getElem? hx));obtain⟨ad,A1,d1,A2,d2,rfl,bk,bm,cb,b4,q0,q1,q2⟩:=ns_ (c1.o.under NoR.good c.o.below (λb hb=>hb)) hx;have j:=q_ bm;clear hx bk bm cb b4;obtain⟨id,a0⟩:=a_ x.id;obtain⟨m1,bz⟩:=a_ x.labels.length;obtain⟨m2,au⟩:=a_ x.props.length;rw[a0.o]at q0 j;rw[bz.o]at q1 j;rw[au.o]at q2 j;obtain⟨S,a8⟩:=a_ wr.heap.size;obtain⟨w5,X⟩:=a_ (wr.alloc (.cells #[.int .i64 id,.slice A1 m1 d1,.slice A2 m2 d2] 72));have ac:=q_ (show Below wr.heap.size wr w5 from by rw[<-X.o];exact (Below.refl _ _).alloc (Nat.le_refl _) _);have J:=q_ (show w5.heap[S]?=some (.cells #[.int .i64 id,.slice A1 m1 d1,.slice A2 m2 d2] 72 (0,0)) from by rw[<-X.o,<-a8.o];exact heap_alloc_new wr _);have d:=q_ (c.o.on ac.o);have a:xs.length=k:=by rw[<-t.o.1,List.length_take,a5.o];omega
   have am:=q_ a;obtain⟨A,B,h3⟩:=d.o.own.form;rw[a]at h3;subst h3;have bu:=q_ (show Below z w w5 from d.o.below);have D:=q_ (show z+1<w5.heap.size from b_ d.o.box);have ar:=q_ (vy_ x az.o.1 b0.o (λb=>b<z) _ w5.drew (λb hb=>by show b<w5.heap.size;have:=D.o;omega) (NoR.good.keep j.o (w':=w5.drew) (λq hq=>(ac.o.cell (Nat.lt_of_lt_of_le hq (by have:=b_ c.o.box;omega))))));obtain⟨cs,E,Y,ab,hr⟩:=d.o.own;rw[a]at E Y;have ah:=q_ E;have U:=q_ (show ∀b,(Value.slice A k B).ownBlock=some b->z+2<=b/\b<w5.heap.size from ab);have N:=q_ (And.intro Y hr);have g0:w5.drew.cell? ⟨z+1,0,none⟩=some (.slice A k B):=cell_of_heap d.o.box 0;have n0:w5.drew.cell? ⟨S,0,none⟩=some (.int .i64 id):=cell_of_heap J.o 0;have n1:w5.drew.cell? ⟨S,1,none⟩=some (.slice A1 m1 d1):=cell_of_heap J.o 1;have n2:w5.drew.cell? ⟨S,2,none⟩=some (.slice A2 m2 d2):=cell_of_heap J.o 2;clear a E Y ab hr c;obtain⟨i0,bf,aj,ai,ao⟩:=info_parts pk_;have e1:(0:Int)<=k:=by omega
   have e2:(k:Int)<nN:=by omega
   go_upto_region 5 with fail;rw[a8.o,X.o];clear q0 q1 q2;go_region_law (first | (refine step_append_lies _ rfl _ _ 51 rfl 0 72 i0 (.agg #[.int .i64 0,.slice none 0 0,.slice none 0 0]) 3 56 Tryz.underlying51 bf aj ai ao rfl (by decide) (.slice A k B) k (I_ cs k) rfl (by exact a7.o.alloc _) ⟨w6.heap.size,0,none⟩ 1 1 [.int .i64 id,.slice A6 q6 c6,.slice F I f] rfl rfl (World.news_of_block (cs:=#[.int .i64 id,.slice A6 q6 c6,.slice F I f]) (by exact NB.o)) ak.o (by omega) (by unfold maxLen;omega) (by omega) (Nat.zero_le _) (w6.heap.size+1) (by exact b9.o) (λg7 c7 w7 aa r ae _=>?_);have bg:=q_ aa;have a9:=q_ (show w6.grownBy w7 (Value.slice A k B).ownBlock from aa_ (w:=w6) (o:=.cells #[.int .i64 id,.slice A6 q6 c6,.slice F I f] 72) ⟨r.os,r.tape,r.output,r.size,r.block⟩);have av:=q_ (show (Value.slice A k B).ownBlock=some g7\/g7=w6.heap.size+1 from ae);have ag:=q_ ((a9.o.block (z+1) (by have:=W.o;omega) (λe=>by have:=U.o (z+1) e.symm;omega)).trans a1.o);have f7:w7.frozen? ⟨z+1,0,none⟩=false:=Lib.frozen_of_heap ag.o 0;have c5:w7.cell? ⟨z+1,0,none⟩=some (.slice A k B):=cell_of_heap ag.o 0;clear aa r ae) | (go_simp;go_at_call 91;(with_reducible refine ar.o.mono ?_);rintro e w6 ⟨cc,n',rfl,y,m,T⟩;have a3:=q_ T;obtain⟨L6,P6,rfl,⟨A6,c6,rfl,_,_⟩,F,f,rfl,_,_⟩:=T;obtain⟨q6,cg⟩:=a_ n'.labels.length;obtain⟨I,b8⟩:=a_ n'.props.length;rw[cg.o,b8.o]at a3 ⊢;rw[m.1,a0.o]at a3 ⊢;have bj:=q_ y;have ap:=q_ m;have W:=q_ (show z+1<w6.heap.size from by have h1:w5.heap.size<=w6.heap.size:=y.size;have:=D.o;omega);have a7:=q_ ((Turn.of_below y).owns ah.o (λg hg h=>by have:=U.o g hg;have h2:w5.heap.size<=g:=h;omega));have a1:=q_ ((y.block (z+1) (by show z+1<w5.heap.size;exact D.o)).trans d.o.box);have bi:w6.cell? ⟨z+1,0,none⟩=some (.slice A k B):=cell_of_heap a1.o 0;have cf:(w6.alloc (.cells #[.int .i64 id,.slice A6 q6 c6,.slice F I f] 72)).cell? ⟨z+1,0,none⟩=some (.slice A k B):=(World.cell?_alloc_lt w6 _ _ (by show z+1<_;exact W.o)).trans bi;have ak:=q_ (show ∀u∈([.int .i64 id,.slice A6 q6 c6,.slice F I f]:List Value),u.oneCell'=true from λu hu=>by simp at hu;rcases hu with rfl | rfl | rfl<;>rfl);have NB:=q_ (heap_alloc_new w6 (.cells #[.int .i64 id,.slice A6 q6 c6,.slice F I f] 72));have b9:=q_ (show (w6.alloc (.cells #[.int .i64 id,.slice A6 q6 c6,.slice F I f] 72)).heap.size=w6.heap.size+1 by simp);clear y m))
   all_goals (
    have w1:IntKind.i64.wrap ((k:Int)+1)=(k:Int)+1:=IntWalk.i64_in _ (by omega);go_wp2_with fail;go_roundw)
   all_goals first
    | (case measure=>simp[intOf];omega)
    | (case rel=>
        refine⟨k+1,xs++[n'],.slice (some ⟨g7,0,none⟩) (k+1) c7,by omega,by go_num,q_ ⟨?_,by rw[f_ HX.o];exact t.o.snoc ap.o⟩⟩;exact Pl1.more d.o am.o U.o N.o.1 N.o.2 (bd_ bj.o) a3.o rfl a9.o av.o bg.o)
  ·have V:nN=k:=by omega
   have bh:=q_ (show bw_ kc_ G.nodes xs from by have h:=t.o;rw[List.take_of_length_le (by rw[a5.o,V];exact Nat.le_refl _)]at h;exact h);have a:xs.length=k:=by rw[<-bh.o.1,a5.o];exact V
   obtain⟨L,M,hX⟩:=c.o.own.form;rw[a]at hX;subst hX;have bb:=q_ a;have af:=c.o.next;obtain⟨ns,br⟩:∃ns,ns=xs:=⟨xs,rfl⟩;rw[<-br]at af bh bb;obtain⟨z2,bx⟩:=a_ wr.heap.size;rw[bx.o]at af;obtain⟨k1,bc⟩:∃k1,k1=k:=⟨k,rfl⟩;rw[<-bc]at af bb;have bn:=q_ af;have cl:=q_ bc;have x1:wr.cell? ⟨p,1,none⟩=some (.slice AE R cE):=(bn.o.below.cell ce).trans (cell_of_heap aw.o.blk 1);clear a br c af t bc;subst V;go_upto_region 7 with fail;go_wp2_with fail;clear x1;go_loopw [30] (λs wx=>∃(k:Nat) (xs:List l_) (Xs:Value),k<=R/\s = .int .i64 (k:Nat)/\Q_ (Pl2 w z z2 ns xs (.slice L k1 M) Xs wx/\bw_ kd_ (G.edges.take k) xs)) (λs _=>R-(intOf s).toNat)
   case atStart=>exact⟨0,[],_,by omega,rfl,q_ ⟨bn.o,by rw[List.take_zero];exact bw_.nil _⟩⟩
   case round=>
    obtain⟨k,xs,Xs,hk,rfl,Z⟩:=hrel;have c:=q_ Z.o.1;have t:=q_ Z.o.2;clear Z;by_cases b7:k<R
    ·obtain⟨x,hx⟩:∃x,G.edges[k]?=some x:=⟨G.edges[k]'(by rw[a4.o];exact b7),List.getElem?_eq_getElem _⟩;have HX:=q_ hx;have az:=q_ (ay.o.2.2.2 x (List.mem_of_getElem? hx));have b0:=q_ (ch.o x (List.mem_of_getElem? hx));obtain⟨ad,A2,d2,rfl,bk,bs,b4,q0,q1,q2,q3,q4⟩:=nt_ (c9.o.under EdR.good c.o.below (λb hb=>hb)) hx;have j:=q_ bs;clear hx bk bs b4;obtain⟨id,a0⟩:=a_ x.id;obtain⟨src,b2⟩:=a_ x.src;obtain⟨dst,b5⟩:=a_ x.dst;obtain⟨C,bd⟩:=a_ x.type;obtain⟨m2,au⟩:=a_ x.props.length;rw[a0.o]at q0 j;rw[b2.o]at q1 j;rw[b5.o]at q2 j;rw[bd.o]at q3 j;rw[au.o]at q4 j;obtain⟨S,a8⟩:=a_ wr.heap.size;obtain⟨w5,X⟩:=a_ (wr.alloc (.cells #[.int .i64 id,.int .i64 src,.int .i64 dst,.string C,.slice A2 m2 d2] 74));have ac:=q_ (show Below wr.heap.size wr w5 from by rw[<-X.o];exact (Below.refl _ _).alloc (Nat.le_refl _) _);have J:=q_ (show w5.heap[S]?=some (.cells #[.int .i64 id,.int .i64 src,.int .i64 dst,.string C,.slice A2 m2 d2] 74 (0,0)) from by rw[<-X.o,<-a8.o];exact heap_alloc_new wr _);have d:=q_ (c.o.on ac.o);have a:xs.length=k:=by rw[<-t.o.1,List.length_take,a4.o];omega
     have am:=q_ a;obtain⟨A,B,h3⟩:=d.o.own.form;rw[a]at h3;subst h3;have bu:=q_ (show Below z w w5 from d.o.below);have D:=q_ (show z+1<w5.heap.size from b_ d.o.box);have ar:=q_ (vz_ x az.o.1 b0.o (λb=>b<z) _ w5.drew (λb hb=>by show b<w5.heap.size;have:=D.o;omega) (EdR.good.keep j.o (w':=w5.drew) (λq hq=>(ac.o.cell (Nat.lt_of_lt_of_le hq (by have:=b_ c.o.box;omega))))));obtain⟨cs,E,Y,ab,hr⟩:=d.o.own;rw[a]at E Y;have ah:=q_ E;have U:=q_ (show ∀b,(Value.slice A k B).ownBlock=some b->z2<=b/\b<w5.heap.size from ab);have N:=q_ (And.intro Y hr);have g0:w5.drew.cell? ⟨z+1,1,none⟩=some (.slice A k B):=cell_of_heap d.o.box 1;have n0:w5.drew.cell? ⟨S,0,none⟩=some (.int .i64 id):=cell_of_heap J.o 0;have n1:w5.drew.cell? ⟨S,1,none⟩=some (.int .i64 src):=cell_of_heap J.o 1;have n2:w5.drew.cell? ⟨S,2,none⟩=some (.int .i64 dst):=cell_of_heap J.o 2;have n3:w5.drew.cell? ⟨S,3,none⟩=some (.string C):=cell_of_heap J.o 3;have n4:w5.drew.cell? ⟨S,4,none⟩=some (.slice A2 m2 d2):=cell_of_heap J.o 4;have cj:z+2<=z2:=d.o.loc.1;clear a E Y ab hr c;obtain⟨i0,bf,aj,ai,ao⟩:=info_parts pl_;have e1:(0:Int)<=k:=by omega
     have e2:(k:Int)<R:=by omega
     go_upto_region 10 with fail;rw[a8.o,X.o];clear q0 q1 q2 q3 q4;go_region_law (first | (refine step_append_lies _ rfl _ _ 52 rfl 0 74 i0 (.agg #[.int .i64 0,.int .i64 0,.int .i64 0,.string ⟨#[]⟩,.slice none 0 0]) 5 64 Tryz.underlying52 bf aj ai ao rfl (by decide) (.slice A k B) k (I_ cs k) rfl (by exact a7.o.alloc _) ⟨w6.heap.size,0,none⟩ 1 1 [.int .i64 id,.int .i64 src,.int .i64 dst,.string C,.slice F I f] rfl rfl (World.news_of_block (cs:=#[.int .i64 id,.int .i64 src,.int .i64 dst,.string C,.slice F I f]) (by exact NB.o)) ak.o (by omega) (by unfold maxLen;omega) (by omega) (Nat.zero_le _) (w6.heap.size+1) (by exact b9.o) (λg7 c7 w7 aa r ae _=>?_);have bg:=q_ aa;have a9:=q_ (show w6.grownBy w7 (Value.slice A k B).ownBlock from aa_ (w:=w6) (o:=.cells #[.int .i64 id,.int .i64 src,.int .i64 dst,.string C,.slice F I f] 74) ⟨r.os,r.tape,r.output,r.size,r.block⟩);have av:=q_ (show (Value.slice A k B).ownBlock=some g7\/g7=w6.heap.size+1 from ae);have ag:=q_ ((a9.o.block (z+1) (by have:=W.o;omega) (λe=>by have:=U.o (z+1) e.symm;omega)).trans a1.o);have f7:w7.frozen? ⟨z+1,1,none⟩=false:=Lib.frozen_of_heap ag.o 1;have c5:w7.cell? ⟨z+1,1,none⟩=some (.slice A k B):=cell_of_heap ag.o 1;clear aa r ae) | (go_simp;go_at_call 93;(with_reducible refine ar.o.mono ?_);rintro e w6 ⟨cc,n',rfl,y,m,T⟩;have a3:=q_ T;obtain⟨P6,rfl,F,f,rfl,_,_⟩:=T;obtain⟨I,b8⟩:=a_ n'.props.length;rw[b8.o]at a3 ⊢;rw[m.1,m.2.1,m.2.2.1,m.2.2.2.1,a0.o,b2.o,b5.o,bd.o]at a3 ⊢;have bj:=q_ y;have ap:=q_ m;have W:=q_ (show z+1<w6.heap.size from by have h1:w5.heap.size<=w6.heap.size:=y.size;have:=D.o;omega);have a7:=q_ ((Turn.of_below y).owns ah.o (λg hg h=>by have:=U.o g hg;have h2:w5.heap.size<=g:=h;omega));have a1:=q_ ((y.block (z+1) (by show z+1<w5.heap.size;exact D.o)).trans d.o.box);have bi:w6.cell? ⟨z+1,1,none⟩=some (.slice A k B):=cell_of_heap a1.o 1;have cf:(w6.alloc (.cells #[.int .i64 id,.int .i64 src,.int .i64 dst,.string C,.slice F I f] 74)).cell? ⟨z+1,1,none⟩=some (.slice A k B):=(World.cell?_alloc_lt w6 _ _ (by show z+1<_;exact W.o)).trans bi;have ak:=q_ (show ∀u∈([.int .i64 id,.int .i64 src,.int .i64 dst,.string C,.slice F I f]:List Value),u.oneCell'=true from λu hu=>by simp at hu;rcases hu with rfl | rfl | rfl | rfl | rfl<;>rfl);have NB:=q_ (heap_alloc_new w6 (.cells #[.int .i64 id,.int .i64 src,.int .i64 dst,.string C,.slice F I f] 74));have b9:=q_ (show (w6.alloc (.cells #[.int .i64 id,.int .i64 src,.int .i64 dst,.string C,.slice F I f] 74)).heap.size=w6.heap.size+1 by simp);clear y m))
     all_goals (
      have w1:IntKind.i64.wrap ((k:Int)+1)=(k:Int)+1:=IntWalk.i64_in _ (by omega);go_wp2_with fail;go_roundw)
     all_goals first
      | (case measure=>simp[intOf];omega)
      | (case rel=>
          refine⟨k+1,xs++[n'],.slice (some ⟨g7,0,none⟩) (k+1) c7,by omega,by go_num,q_ ⟨?_,by rw[f_ HX.o];exact t.o.snoc ap.o⟩⟩;exact Pl2.more d.o am.o U.o N.o.1 N.o.2 (bd_ bj.o) a3.o rfl a9.o av.o bg.o)
    ·have V:R=k:=by omega
     have bq:=q_ (show bw_ kd_ G.edges xs from by have h:=t.o;rw[List.take_of_length_le (by rw[a4.o,V];exact Nat.le_refl _)]at h;exact h);have a:xs.length=k:=by rw[<-bq.o.1,a4.o];exact V
     obtain⟨O,P,hX⟩:=c.o.own.form;rw[a]at hX;subst hX;have bt:=q_ a;have cn:wr.cell? ⟨z+1,0,none⟩=some (.slice L k1 M):=cell_of_heap c.o.box 0;have co:wr.cell? ⟨z+1,1,none⟩=some (.slice O k P):=cell_of_heap c.o.box 1;have r0:wr.cell? ⟨z,0,none⟩=some (.slice none 0 0):=cell_of_heap c.o.res 0;have r1:wr.cell? ⟨z,1,none⟩=some (.slice none 0 0):=cell_of_heap c.o.res 1;have y0:wr.frozen? ⟨z,0,none⟩=false:=Lib.frozen_of_heap c.o.res 0;have y1:wr.frozen? ⟨z,1,none⟩=false:=Lib.frozen_of_heap c.o.res 1;clear a t;subst V;go_upto_region 12 with fail;go_wp2_with fail;have h1:=heap_setCell_same _ z 1 _ _ (.slice O R P) (heap_setCell_same _ z 0 _ _ (.slice L k1 M) c.o.res);have ht:=(((Turn.refl (λb=>b=z) wr).setCell (p:=⟨z,0,none⟩) (.inr rfl) (.slice L k1 M)).setCell (p:=⟨z,1,none⟩) (.inr rfl) (.slice O R P));obtain⟨W9,cd⟩:=a_ ((wr.setCell ⟨z,0,none⟩ (.slice L k1 M)).setCell ⟨z,1,none⟩ (.slice O R P));rw[cd.o]at h1 ht ⊢;have k0:W9.cell? ⟨z,0,none⟩=some (.slice L k1 M):=cell_of_heap h1 0;have ci:W9.cell? ⟨z,1,none⟩=some (.slice O R P):=cell_of_heap h1 1;have ck:=c.o.loc;have bw:Below w.heap.size w W9:=by rw[HZ.o];exact c.o.below.trans (ht.below (λi _ h=>by omega) (by have:=b_ c.o.box;omega))
     have c8:GrR W9 (λb=>w.heap.size<=b/\b<W9.heap.size) ⟨ns,xs⟩ (.agg #[.slice L k1 M,.slice O R P]):=by
      refine⟨_,_,rfl,?_,?_⟩
      ·refine ((c.o.nodes.turn NoR.good ht (λb hb=>by omega) (λb hb=>by omega)).rd NoR.good).mono NoR.good (λb hb=>⟨by have:=HZ.o;omega,by have:=ht.size;omega⟩)
      ·refine ((c.o.own.turn EdR.good ht (λb hb=>hb.2) (λb hb=>by omega)).rd EdR.good).mono EdR.good (λb hb=>⟨by have:=HZ.o;omega,by have:=ht.size;omega⟩)
     rw [<- bb.o, <- bt.o] at *;refine bodyPost_ret (v:=.agg #[.slice L ns.length M,.slice O xs.length P]) (by simp[results,Tryz.results77,go_sem,k0,ci]) rfl ⟨L,M,O,P,ns,xs,rfl,bw,c8,bh.o,bq.o⟩
end
section
open Go Go.RowKit Go.Shelf Go.Sort Go.Proofs
def WT (w:World) (s:Value):Prop:=∃n xs,w.ownsRow 0 9 1 s n xs/\n<=2000000
theorem WT.turn {S:Nat->Prop} {w w':World} {s:Value} (h:WT w s) (c:Turn S w w') (b:∀g,s.ownBlock=some g->¬S g):WT w' s:=by obtain⟨n,xs,h1,a⟩:=h;exact⟨n,xs,c.owns h1 b,a⟩
theorem WT.nil (w:World):WT w (.slice none 0 0):=⟨0,[],World.ownsRow_nil ..,by decide⟩
theorem WT.lt {w:World} {s:Value} (h:WT w s):∀g,s.ownBlock=some g->g<w.heap.size:=λg a=>by
 obtain⟨n,xs,h1,_⟩:=h;exact (h1.lt g a).2
end
end Go.Proofs.YtefhfadjajcmkaaGreatDoor
