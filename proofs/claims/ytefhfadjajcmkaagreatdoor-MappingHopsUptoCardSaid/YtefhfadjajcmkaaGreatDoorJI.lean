/- The map of hops: 'm[k] = append(m[k], x)' at keys that are structs. -/
import Derived.Test.YtefhfadjajcmkaaGreatDoorJH
import Derived.Test.YtefhfadjajcmkaaGreatDoorGZ
import Derived.Lib.Bytealg
import Derived.Shelf.Sort.Plain
import Derived.Shelf.GgSortFunc.Compose
import Derived.Sort.KeysCollected
import Derived.Maps.OwnRows
import Derived.WideKeyEntry
import Derived.DeepKeys4
set_option linter.unusedVariables false
set_option linter.unusedSimpArgs false
set_option maxRecDepth 100000
set_option maxHeartbeats 64000000
namespace Go.Proofs.YtefhfadjajcmkaaGreatDoor
open Go.Lib (cell_of_heap)
section
open Go Go.RowKit
section
variable {α : Type} {R:bj_ α} {w:World} {F:Nat->Prop} {l:List α} {ad:Addr} {n sz:Nat}
theorem SRd.fn (h:SRd sz R w F l (some ad) n):∃cs:Nat->Array Value,∀i x,l[i]?=some x->F ad.block/\(cs i).size=sz/\(∀j,j<sz->w.cell? (ad.add (i*sz+j))=(cs i)[j]?)/\R w F x (cs i):=by
 classical
 have a:∀i,∃c:Array Value,∀x,l[i]?=some x->F ad.block/\c.size=sz/\(∀j,j<sz->w.cell? (ad.add (i*sz+j))=c[j]?)/\R w F x c:=λi=>by
  cases d:l[i]? with
  | none=>exact⟨#[],λx h=>by cases h⟩
  | some x=>
   obtain⟨o,c,e,m,h1,h2,g⟩:=h.at_ d;injection e with e;subst e;exact⟨c,λy f=>by injection f with f;subst f;exact⟨m,h1,h2,g⟩⟩
 exact⟨λi=>(a i).choose,λi x d=>(a i).choose_spec x d⟩
theorem pj_ {cs:Nat->Array Value} (f:∀i,i<n->(cs i).size=sz) (h:∀i,i<n->∀j,j<sz->w.cell? (ad.add (i*sz+j))=(cs i)[j]?) (c:0<sz):∀j u,(N_ cs n)[j]?=some u->w.cell? (ad.add j)=some u:=by
 intro j u g;have o:=ad_ f;have m:j<n*sz:=by rw[<-o];exact (List.getElem?_eq_some_iff.1 g).1
 have hi:j / sz<n:=Nat.div_lt_of_lt_mul (by rw[Nat.mul_comm];exact m);have d:j % sz<sz:=Nat.mod_lt _ c;have a:j / sz*sz+j % sz=j:=by rw[Nat.mul_comm];exact Nat.div_add_mod j sz
 have h1:=bt_ f hi d;rw[a]at h1;have h2:=h _ hi _ d;rw[a]at h2;rw[h2,<-h1,g]
theorem vy_ {cs:Nat->Array Value} (h1:∀i,i<n->∀u∈(cs i).toList,u.oneCell'=true):∀u∈N_ cs n,u.oneCell'=true:=by intro u a;unfold N_ at a;obtain⟨i,hi,a⟩:=List.mem_flatMap.1 a;exact h1 i (List.mem_range.1 hi) u a
end
def tf_ {α : Type} (E sz:Nat) (R:bj_ α) (F:Nat->Prop) (l:List α) (w:World) (e:Ending) (w':World):Prop:=
 ∃s,e = .returned s/\Below w.heap.size w w'/\B_ E sz R w' (λb=>F b\/(w.heap.size<=b/\b<w'.heap.size)) l s/\(∀g,s.ownBlock=some g->w.heap.size<=g)
def VaR:bj_ h_:=λw F x c=>VRd w F x (.agg c)
theorem VaR.good:VaR.Good:=⟨λh a=>h.keep a,λh c=>h.mono c⟩
theorem VaR.one {w:World} {F:Nat->Prop} {x:h_} {c:Array Value} (h:VaR w F x c):∀u∈c.toList,u.oneCell'=true:=by obtain⟨A,d,a,_⟩:=VRd.inv h;injection a with a;subst a;exact H0_ x A _ d
theorem TxR.one {w:World} {F:Nat->Prop} {x:ByteArray} {c:Array Value} (h:TxR w F x c):∀u∈c.toList,u.oneCell'=true:=by have h:c=#[.string x]:=h;subst h;exact Hn_ x
theorem ya_ (l:List ByteArray) (F:Nat->Prop) (A:Option Addr) (n D:Nat) (hn:n<=10000000) (w:World) (B:∀g,F g->g<w.heap.size) (v:SRd 1 TxR w F l A n) :
    Calls Tryz.prog 152 #[.slice A n D] w (tf_ 9 1 TxR F l w):=by
 have u:=q_ v.1;have T:=q_ B;have a0:∀(w:World) (a:Option Addr) (n c L I:Nat),(binOp .eql 67 (.slice a n c) (.slice none L I)).run Tryz.prog w = .ok (.bool a.isNone) w:=λw a n c L I=>Lib.run_eql_slice_nil w _ _ a n c L I Tryz.underlying67
 cases A with
 | none=>
  have h0:l=[]:=by
   rcases Nat.eq_zero_or_pos n with h | h
   ·exact List.eq_nil_of_length_eq_zero (by rw[<-u.o,h])
   ·obtain⟨ad,e,_⟩:=v.2 h
    cases e
  have Z:=q_ h0;clear v B h0;go_enter Tryz.func152,Tryz.ntmps152
  go_wp2_with fail;go_ret;rw[Z.o];exact⟨.slice none 0 0,rfl,Below.refl _ _,B_.nil _ _ _ _ _,λg m=>by cases m⟩
 | some ad=>
  obtain⟨cs,q⟩:=v.fn;have d:∀i,i<n->∃x,l[i]?=some x:=λi hi=>⟨l[i]'(by rw[<-u.o];exact hi),List.getElem?_eq_getElem _⟩;have M:=q_ (λi (hi:i<n)=>by obtain⟨x,f⟩:=d i hi;exact (show (cs i).size=1 from (q i x f).2.1));have h1:=q_ (vy_ (n:=n) (cs:=cs) λi hi=>by obtain⟨x,f⟩:=d i hi;exact TxR.one (q i x f).2.2.2)
  have z:=q_ (λ(o:Obj)=>pj_ (w:=w.alloc o) (ad:=ad) M.o (λi hi j hj=>by
   obtain⟨x,f⟩:=d i hi;obtain⟨Y,_,g3,_⟩:=q i x f;rw[World.cell?_alloc_lt w o _ (by rw[block_of_add];exact B _ Y)];exact g3 j hj) (by decide))
  have W:=q_ (λi x f=>(q i x f).2.2.2);clear v B q d;obtain⟨i0,hi,V,U,N⟩:=info_parts ws_;go_enter Tryz.func152,Tryz.ntmps152
  go_wp2_with (at_builtin;refine wpList_append_own _ rfl _ _ 67 rfl w.heap.size 9 i0 (.string ⟨#[]⟩) 1 16 Tryz.underlying67 hi V U N rfl (by decide) _ _ _ rfl (World.ownsRow_made w #[] 0 (Nat.le_refl _) (Nat.zero_le _) rfl) ad n D (N_ cs n) rfl (ad_ M.o) (z.o _) h1.o (by unfold maxLen;omega) (by omega) (by simp) ?_)
  intro O X y r J;have S:=q_ (((Below.refl _ w).alloc (Nat.le_refl _) (.cells #[] 9)).grown r (by simp) (by intro k hk;simp[Value.ownBlock]at hk;omega));have C:=q_ (show X.ownsRow w.heap.size 9 1 O n (N_ cs n) from by simpa using y);clear y r J;go_wp2_with fail;go_ret;refine⟨O,rfl,S.o,⟨cs,by rw[<-u.o];exact tz_ C.o (Nat.zero_le _),λi hi=>M.o i (by rw[u.o];exact hi),λg m=>.inr (C.o.lt g m),λi x f=>?_⟩,λg m=>(C.o.lt g m).1⟩;refine TxR.good.mono (TxR.good.keep (W.o i x f) λp hp=>S.o.cell (T.o _ hp)) λg m=>⟨.inl m,λe=>?_⟩;have h1:=(C.o.lt g e).1;have h2:=T.o g m;omega
theorem yb_ (l:List h_) (F:Nat->Prop) (A:Option Addr) (n D:Nat) (hn:n<=10000000) (w:World) (B:∀g,F g->g<w.heap.size) (v:SRd 6 VaR w F l A n) :
    Calls Tryz.prog 278 #[.slice A n D] w (tf_ 39 6 VaR F l w):=by
 have u:=q_ v.1;have T:=q_ B;have a0:∀(w:World) (a:Option Addr) (n c L I:Nat),(binOp .eql 37 (.slice a n c) (.slice none L I)).run Tryz.prog w = .ok (.bool a.isNone) w:=λw a n c L I=>Lib.run_eql_slice_nil w _ _ a n c L I Tryz.underlying37
 cases A with
 | none=>
  have h0:l=[]:=by
   rcases Nat.eq_zero_or_pos n with h | h
   ·exact List.eq_nil_of_length_eq_zero (by rw[<-u.o,h])
   ·obtain⟨ad,e,_⟩:=v.2 h
    cases e
  have Z:=q_ h0;clear v B h0;go_enter Tryz.func278,Tryz.ntmps278
  go_wp2_with fail;go_ret;rw[Z.o];exact⟨.slice none 0 0,rfl,Below.refl _ _,B_.nil _ _ _ _ _,λg m=>by cases m⟩
 | some ad=>
  obtain⟨cs,q⟩:=v.fn;have d:∀i,i<n->∃x,l[i]?=some x:=λi hi=>⟨l[i]'(by rw[<-u.o];exact hi),List.getElem?_eq_getElem _⟩;have M:=q_ (λi (hi:i<n)=>by obtain⟨x,f⟩:=d i hi;exact (show (cs i).size=6 from (q i x f).2.1));have h1:=q_ (vy_ (n:=n) (cs:=cs) λi hi=>by obtain⟨x,f⟩:=d i hi;exact VaR.one (q i x f).2.2.2)
  have z:=q_ (λ(o:Obj)=>pj_ (w:=w.alloc o) (ad:=ad) M.o (λi hi j hj=>by
   obtain⟨x,f⟩:=d i hi;obtain⟨Y,_,g3,_⟩:=q i x f;rw[World.cell?_alloc_lt w o _ (by rw[block_of_add];exact B _ Y)];exact g3 j hj) (by decide))
  have W:=q_ (λi x f=>(q i x f).2.2.2);clear v B q d;obtain⟨i0,hi,V,U,N⟩:=info_parts Hz_;go_enter Tryz.func278,Tryz.ntmps278
  go_wp2_with (at_builtin;refine wpList_append_own _ rfl _ _ 37 rfl w.heap.size 39 i0 (.agg #[.int .i64 0,.bool false,.int .i64 0,.string ⟨#[]⟩,.string ⟨#[]⟩,.slice none 0 0]) 6 80 Tryz.underlying37 hi V U N rfl (by decide) _ _ _ rfl (World.ownsRow_made w #[] 0 (Nat.le_refl _) (Nat.zero_le _) rfl) ad n D (N_ cs n) rfl (ad_ M.o) (z.o _) h1.o (by unfold maxLen;omega) (by omega) (by simp) ?_)
  intro O X y r J;have S:=q_ (((Below.refl _ w).alloc (Nat.le_refl _) (.cells #[] 39)).grown r (by simp) (by intro k hk;simp[Value.ownBlock]at hk;omega));have C:=q_ (show X.ownsRow w.heap.size 39 6 O n (N_ cs n) from by simpa using y);clear y r J;go_wp2_with fail;go_ret;refine⟨O,rfl,S.o,⟨cs,by rw[<-u.o];exact tz_ C.o (Nat.zero_le _),λi hi=>M.o i (by rw[u.o];exact hi),λg m=>.inr (C.o.lt g m),λi x f=>?_⟩,λg m=>(C.o.lt g m).1⟩;refine VaR.good.mono (VaR.good.keep (W.o i x f) λp hp=>S.o.cell (T.o _ hp)) λg m=>⟨.inl m,λe=>?_⟩;have h1:=(C.o.lt g e).1;have h2:=T.o g m;omega
def LFl (w:World) (F:Nat->Prop) (l:List h_) (s:Value):Prop:=SlR 6 VaR w F l s/\∀b,F b->b<w.heap.size
theorem LFl.form {w:World} {F:Nat->Prop} {l:List h_} {s:Value} (h:LFl w F l s):∃A a,s = .slice A l.length a:=by obtain⟨⟨A,a,e,_⟩,_⟩:=h;exact⟨A,a,e⟩
theorem LFl.turn {w w':World} {F:Nat->Prop} {l:List h_} {s:Value} (h:LFl w F l s) {S:Nat->Prop} (ht:Turn S w w') (a:∀b,F b->¬S b):LFl w' F l s:=
 ⟨h.1.turn VaR.good ht h.2 a,λb hb=>Nat.lt_of_lt_of_le (h.2 b hb) ht.size⟩
def Ke_ (l:List h_) (w:World) (e:Ending) (w':World):Prop:=∃s,e = .returned s/\Below w.heap.size w w'/\LFl w' (λb=>w.heap.size<=b/\b<w'.heap.size) l s
def Lb_ (v:h_) (w:World) (e:Ending) (w':World):Prop:=∃s,e = .returned (.agg (c_ v s))/\Below w.heap.size w w'/\SlR 6 VaR w' (λb=>w.heap.size<=b/\b<w'.heap.size) v.list s
theorem VaR.flat {w:World} {F F':Nat->Prop} {x:h_} {c:Array Value} (h:VaR w F x c) (f:x.list=[]):VaR w F' x c:=by obtain⟨A,g,d,a,i⟩:=VRd.inv h;injection d with d;subst d;exact VRd.of_list a (by rw[f];exact⟨rfl,λh=>absurd h (by simp)⟩)
theorem yc_ {l:List h_} {F:Nat->Prop} {w w':World} {e:Ending} (f:∀x,x∈l->x.list=[]) (h:tf_ 39 6 VaR F l w e w'):Ke_ l w e w':=by obtain⟨s,j,hb,a,m⟩:=h;refine⟨s,j,hb,?_,λb hb=>hb.2⟩;obtain⟨cs,h1,p,q,o⟩:=a;have h2:B_ 39 6 VaR w' (λb=>w.heap.size<=b/\b<w'.heap.size) l s:=⟨cs,h1,p,λg c=>⟨m g c,(h1.lt g c).2⟩,λi x d=>(o i x d).flat (f x (List.mem_of_getElem? d))⟩;exact h2.rd VaR.good
theorem vz_ (v:h_) {F:Nat->Prop} (A:Option Addr) (f:Nat) (w:World) (Z:∀g,F g->g<w.heap.size) (W:LRd w F v.list A v.list.length)
    (C:∀w',LRd w' F v.list A v.list.length->(∀g,F g->g<w'.heap.size)->Calls Tryz.prog 278 #[.slice A v.list.length f] w' (Ke_ v.list w')) :
    Calls Tryz.prog 222 #[.agg (c_ v (.slice A v.list.length f))] w (Lb_ v w):=by
 obtain⟨k,t,n,s,x,l⟩:=v;unfold c_;simp only[h_.kind,h_.truth,h_.num,h_.text,h_.extra,h_.list]at W C ⊢;have M:=q_ (L_ w (.cells #[.int .i64 k,.bool t,.int .i64 n,.string s,.string x,.slice A l.length f] 39) (.cells #[.int .i64 0,.bool false,.int .i64 0,.string ⟨#[]⟩,.string ⟨#[]⟩,.slice none 0 0] 39));have I:((w.alloc (.cells #[.int .i64 k,.bool t,.int .i64 n,.string s,.string x,.slice A l.length f] 39)).alloc (.cells #[.int .i64 0,.bool false,.int .i64 0,.string ⟨#[]⟩,.string ⟨#[]⟩,.slice none 0 0] 39)).heap.size=w.heap.size+2:=by simp
 have y:((w.alloc (.cells #[.int .i64 k,.bool t,.int .i64 n,.string s,.string x,.slice A l.length f] 39)).alloc (.cells #[.int .i64 0,.bool false,.int .i64 0,.string ⟨#[]⟩,.string ⟨#[]⟩,.slice none 0 0] 39)).heap[w.heap.size]?=some (.cells #[.int .i64 k,.bool t,.int .i64 n,.string s,.string x,.slice A l.length f] 39 (0,0)):=by rw[Below.heap_alloc _ _ _ (by simp)];exact heap_alloc_new w _
 have D:((w.alloc (.cells #[.int .i64 k,.bool t,.int .i64 n,.string s,.string x,.slice A l.length f] 39)).alloc (.cells #[.int .i64 0,.bool false,.int .i64 0,.string ⟨#[]⟩,.string ⟨#[]⟩,.slice none 0 0] 39)).heap[w.heap.size+1]?=some (.cells #[.int .i64 0,.bool false,.int .i64 0,.string ⟨#[]⟩,.string ⟨#[]⟩,.slice none 0 0] 39 (0,0)):=by have:=heap_alloc_new (w.alloc (.cells #[.int .i64 k,.bool t,.int .i64 n,.string s,.string x,.slice A l.length f] 39)) (.cells #[.int .i64 0,.bool false,.int .i64 0,.string ⟨#[]⟩,.string ⟨#[]⟩,.slice none 0 0] 39);simpa using this
 obtain⟨z,T⟩:=a_ w.heap.size;obtain⟨W2,U⟩:=a_ ((w.alloc (.cells #[.int .i64 k,.bool t,.int .i64 n,.string s,.string x,.slice A l.length f] 39)).alloc (.cells #[.int .i64 0,.bool false,.int .i64 0,.string ⟨#[]⟩,.string ⟨#[]⟩,.slice none 0 0] 39));rw[U.o]at M I y D;have HC:=q_ (C W2 (W.under M.o Z) (λg hg=>by have:=Z g hg;have:=M.o.size;omega));rw[T.o]at M I y D;have a2:=q_ y;have a4:=q_ D;have r:=q_ I;have c5:W2.cell? ⟨z,5,none⟩=some (.slice A l.length f):=cell_of_heap y 5;clear W C Z y D I;go_enter Tryz.func222,Tryz.ntmps222
 go_upto_region 1 with fail;rw[U.o,T.o];go_wp2_with fail;refine HC.o.mono ?_;rintro e w5 ⟨s',rfl,B,S⟩;obtain⟨m,d,rfl⟩:=S.form;have a1:=q_ S;have a3:=q_ B;have a6:z+2<=w5.heap.size:=by have:=B.size;have:=r.o;omega
 have u:=q_ ((B.block z (by have:=r.o;omega)).trans a2.o);have Y:=q_ ((B.block (z+1) (by have:=r.o;omega)).trans a4.o);have d0:w5.cell? ⟨z,0,none⟩=some (.int .i64 k):=cell_of_heap u.o 0;have d5:w5.cell? ⟨z,5,none⟩=some (.slice A l.length f):=cell_of_heap u.o 5;have f5:w5.frozen? ⟨z,5,none⟩=false:=Lib.frozen_of_heap u.o 5;have j:=heap_setCell_same w5 z 5 _ 39 (.slice m l.length d) u.o;have a:(w5.setCell ⟨z,5,none⟩ (.slice m l.length d)).heap[z+1]?=_:=(Below.heap_setCell w5 ⟨z,5,none⟩ (.slice m l.length d) (z+1) (by simp)).trans Y.o;have L:=(Turn.refl (λb=>b=z\/b=z+1) w5).setCell (p:=⟨z,5,none⟩) (.inr (.inl rfl)) (.slice m l.length d);obtain⟨c,V⟩:=a_ (w5.setCell ⟨z,5,none⟩ (.slice m l.length d));rw[V.o]at j a L;have g0:c.cell? ⟨z,0,none⟩=some (.int .i64 k):=cell_of_heap j 0;have g1:c.cell? ⟨z,1,none⟩=some (.bool t):=cell_of_heap j 1;have g2:c.cell? ⟨z,2,none⟩=some (.int .i64 n):=cell_of_heap j 2;have g3:c.cell? ⟨z,3,none⟩=some (.string s):=cell_of_heap j 3;have g4:c.cell? ⟨z,4,none⟩=some (.string x):=cell_of_heap j 4;have g5:c.cell? ⟨z,5,none⟩=some (.slice m l.length d):=cell_of_heap j 5;have r0:c.cell? ⟨z+1,0,none⟩=some (.int .i64 0):=cell_of_heap a 0;have y0:c.frozen? ⟨z+1,0,none⟩=false:=Lib.frozen_of_heap a 0;have r1:c.cell? ⟨z+1,1,none⟩=some (.bool false):=cell_of_heap a 1;have y1:c.frozen? ⟨z+1,1,none⟩=false:=Lib.frozen_of_heap a 1;have r2:c.cell? ⟨z+1,2,none⟩=some (.int .i64 0):=cell_of_heap a 2;have y2:c.frozen? ⟨z+1,2,none⟩=false:=Lib.frozen_of_heap a 2;have r3:c.cell? ⟨z+1,3,none⟩=some (.string ⟨#[]⟩):=cell_of_heap a 3;have y3:c.frozen? ⟨z+1,3,none⟩=false:=Lib.frozen_of_heap a 3;have r4:c.cell? ⟨z+1,4,none⟩=some (.string ⟨#[]⟩):=cell_of_heap a 4;have y4:c.frozen? ⟨z+1,4,none⟩=false:=Lib.frozen_of_heap a 4;have r5:c.cell? ⟨z+1,5,none⟩=some (.slice none 0 0):=cell_of_heap a 5;have y5:c.frozen? ⟨z+1,5,none⟩=false:=Lib.frozen_of_heap a 5;have a7:=q_ j;have X:=q_ a;have a5:=q_ L;clear B S j a L c5;go_upto_region 2 with fail;rw[V.o];go_wp2_with fail;have q:((((((c.setCell ⟨z+1,0,none⟩ (.int .i64 k)).setCell ⟨z+1,1,none⟩ (.bool t)).setCell ⟨z+1,2,none⟩ (.int .i64 n)).setCell ⟨z+1,3,none⟩ (.string s)).setCell ⟨z+1,4,none⟩ (.string x)).setCell ⟨z+1,5,none⟩ (.slice m l.length d)).heap[z+1]?=some (.cells #[.int .i64 k,.bool t,.int .i64 n,.string s,.string x,.slice m l.length d] 39 (0,0)):=(heap_setCell_same _ (z+1) 5 _ 39 _ (heap_setCell_same _ (z+1) 4 _ 39 _ (heap_setCell_same _ (z+1) 3 _ 39 _ (heap_setCell_same _ (z+1) 2 _ 39 _ (heap_setCell_same _ (z+1) 1 _ 39 _ (heap_setCell_same _ (z+1) 0 _ 39 _ X.o))))));have O:Turn (λb=>b=z\/b=z+1) w5 ((((((c.setCell ⟨z+1,0,none⟩ (.int .i64 k)).setCell ⟨z+1,1,none⟩ (.bool t)).setCell ⟨z+1,2,none⟩ (.int .i64 n)).setCell ⟨z+1,3,none⟩ (.string s)).setCell ⟨z+1,4,none⟩ (.string x)).setCell ⟨z+1,5,none⟩ (.slice m l.length d)):=((((((a5.o.setCell (p:=⟨z+1,0,none⟩) (.inr (.inr rfl)) _).setCell (p:=⟨z+1,1,none⟩) (.inr (.inr rfl)) _).setCell (p:=⟨z+1,2,none⟩) (.inr (.inr rfl)) _).setCell (p:=⟨z+1,3,none⟩) (.inr (.inr rfl)) _).setCell (p:=⟨z+1,4,none⟩) (.inr (.inr rfl)) _).setCell (p:=⟨z+1,5,none⟩) (.inr (.inr rfl)) _);obtain⟨J,a0⟩:=a_ ((((((c.setCell ⟨z+1,0,none⟩ (.int .i64 k)).setCell ⟨z+1,1,none⟩ (.bool t)).setCell ⟨z+1,2,none⟩ (.int .i64 n)).setCell ⟨z+1,3,none⟩ (.string s)).setCell ⟨z+1,4,none⟩ (.string x)).setCell ⟨z+1,5,none⟩ (.slice m l.length d));rw[a0.o]at q O ⊢;have q0:J.cell? ⟨z+1,0,none⟩=some (.int .i64 k):=cell_of_heap q 0;have q1:J.cell? ⟨z+1,1,none⟩=some (.bool t):=cell_of_heap q 1;have q2:J.cell? ⟨z+1,2,none⟩=some (.int .i64 n):=cell_of_heap q 2;have q3:J.cell? ⟨z+1,3,none⟩=some (.string s):=cell_of_heap q 3;have q4:J.cell? ⟨z+1,4,none⟩=some (.string x):=cell_of_heap q 4;have q5:J.cell? ⟨z+1,5,none⟩=some (.slice m l.length d):=cell_of_heap q 5;have N:=q_ O;clear O q r0 r1 r2 r3 r4 r5 y0 y1 y2 y3 y4 y5 g0 g1 g2 g3 g4 g5 d0 d5 f5;go_wp2_with fail;refine bodyPost_ret (v:=.agg #[.int .i64 k,.bool t,.int .i64 n,.string s,.string x,.slice m l.length d]) (by simp[results,Tryz.results222,go_sem,q0,q1,q2,q3,q4,q5]) rfl ⟨.slice m l.length d,rfl,?_,?_⟩
 ·rw[T.o];exact (M.o.trans (a3.o.mono (by have:=r.o;omega))).trans (N.o.below (λi _ h=>by omega) (by omega))
 ·have h1:=a1.o.turn N.o (λb hb h=>by have:=r.o;omega);refine h1.1.mono VaR.good λb hb=>⟨?_,?_⟩
  ·have:=r.o;have:=T.o;omega
  ·have:=N.o.size;omega
def Lc_ (v:h_) (w:World) (e:Ending) (w':World):Prop:=∃B cb,e = .returned (.agg (c_ v (.slice B v.list.length cb)))/\Below w.heap.size w w'/\VRd w' (λb=>w.heap.size<=b/\b<w'.heap.size) v (.agg (c_ v (.slice B v.list.length cb)))
theorem yd_ (v:h_) (c:∀x,x∈v.list->x.list=[]) (p:T_ v<=2000000) (F:Nat->Prop) (u:Value) (w:World) (i:∀g,F g->g<w.heap.size) (m:VRd w F v u) :
    Calls Tryz.prog 222 #[u] w (Lc_ v w):=by
 obtain⟨A,a,rfl,_,f⟩:=m.inv;have hz:=ir_ v;have o:=dz_ v.list;refine (vz_ v A a w i f (λw' h1 h2=>(yb_ v.list F A _ a (by omega) w' h2 h1).mono λe w2 h=>yc_ c h)).mono ?_;rintro e w' ⟨s,rfl,hb,B,cb,rfl,d,j⟩;exact⟨B,cb,rfl,hb,VRd.of_list d j⟩
section
variable {α : Type} {R:bj_ α} {F G:Nat->Prop} {l:List α} {sz:Nat} {s:Value} {E:Nat}
theorem hv_ {w5 w6:World} {x:α} {c:Array Value} {g4 c4:Nat} {cs:Nat->Array Value} (j:R.Good) (L:∀i,i<l.length->(cs i).size=sz) (J:∀i x,l[i]?=some x->R w5 (λb=>F b/\s.ownBlock≠some b) x (cs i)) (D:R w5 G x c) (C:c.size=sz)
    (q:∀b,G b->s.ownBlock≠some b) (m:∀b,F b->b<w5.heap.size) (o:∀b,G b->b<w5.heap.size)
    (I:w6.ownsRow 0 E sz (.slice (some ⟨g4,0,none⟩) (l.length+1) c4) (l.length+1) (N_ cs l.length++c.toList)) (v:w5.grownBy w6 s.ownBlock) (z:s.ownBlock=some g4\/w5.heap.size<=g4) :
    B_ E sz R w6 (λb=>F b\/G b\/b=g4) (l++[x]) (.slice (some ⟨g4,0,none⟩) (l.length+1) c4):=by
 have r:(l++[x]).length=l.length+1:=by simp
 have A:∀i,i<l.length->(λi=>if i<l.length then cs i else c) i=cs i:=λi hi=>if_pos hi
 have u:∀b,F b->s.ownBlock≠some b->b≠g4:=λb hb h2 e=>by
  rcases z with h | h
  ·exact h2 (by rw[h,e])
  ·have:=m b hb;omega
 have B:∀b,G b->b≠g4:=λb hb e=>by
  rcases z with h | h
  ·exact q b hb (by rw[h,e])
  ·have:=o b hb;omega
 refine⟨λi=>if i<l.length then cs i else c,?_,λi hi=>?_,λg a=>?_,λi y f=>?_⟩
 ·rw[r,cy_,fh_ A,if_neg (Nat.lt_irrefl _)];exact I
 ·by_cases h:i<l.length
  ·simp only[if_pos h];exact L i h
  ·simp only[if_neg h];exact C
 ·injection a with a;exact .inr (.inr a.symm)
 ·by_cases h:i<l.length
  ·simp only[if_pos h];rw[List.getElem?_append_left h]at f;refine j.mono (j.keep (J i y f) (w':=w6) λp d=>(Turn.of_grown v).cell (m _ d.1) λe=>d.2 e.symm) λb hb=>⟨.inl hb.1,λe=>?_⟩;injection e with e;exact u b hb.1 hb.2 e.symm
  ·simp only[if_neg h];have hi:i=l.length:=by have:=by_ f;omega
   subst hi;simp at f;subst f;refine j.mono (j.keep D (w':=w6) λp d=>(Turn.of_grown v).cell (o _ d) λe=>q _ d e.symm) λb hb=>⟨.inr (.inl hb),λe=>?_⟩;injection e with e;exact B b hb e.symm
end
theorem Gd_:(Tryz.prog.info? 69).map (λi=>(i.zero,i.size,i.bytes))=some (some (.agg #[.string ⟨#[]⟩,.int .i64 0,.bool false,.int .i64 0,.string ⟨#[]⟩,.string ⟨#[]⟩,.slice none 0 0]),7,96):=by kernel_rfl
def g3_ (a b:ByteArray):Int:=Lib.compareBytes a.data.toList b.data.toList
structure ItP where
 p:C_
 A:Option Addr
 cap:Nat
instance:Inhabited ItP:=⟨⟨⟨⟨#[]⟩,.mk 0 false 0 ⟨#[]⟩ ⟨#[]⟩ []⟩,none,0⟩⟩
def B7_ (x:ItP):List Value:=[.string x.p.key,.int .i64 x.p.v.kind,.bool x.p.v.truth,.int .i64 x.p.v.num,.string x.p.v.text,.string x.p.v.extra,.slice x.A x.p.v.list.length x.cap]
theorem v0_ (x y:ItP) (W:World):Calls Tryz.prog 224 #[.agg (B7_ x).toArray,.agg (B7_ y).toArray] W λe w'=>e = .returned (.int .i64 (g3_ x.p.key y.p.key))/\∃q f,w'=Go.Sort.grow (W.drewN q) f:=by
 have c:=λd=>(Any.strings_Compare Tryz.lays106 x.p.key y.p.key d:Calls Tryz.prog 225 _ d _);have a:=q_ (λd=>(c d).mono λe w' h=>(show e = .returned (.int .i64 (g3_ x.p.key y.p.key))/\w'=d from h));clear c;generalize g3_ x.p.key y.p.key=r at a ⊢;unfold B7_;go_enter Tryz.func224,Tryz.ntmps224
 go_wp2_with fail;refine (a.o _).mono ?_;rintro e w' ⟨rfl,rfl⟩;go_wp2_with fail;go_ret;exact⟨rfl,0,_,by rw[Go.Sort.alloc_eq_grow,Go.Sort.alloc_eq_grow,Go.Sort.grow_grow];rfl⟩
theorem kh_ (a b:ByteArray):(g3_ a b<0)=(a.data.toList<b.data.toList):=by
 unfold g3_;generalize a.data.toList=x;generalize b.data.toList=y;induction x generalizing y with
 | nil=>cases y<;>simp[Lib.compareBytes]
 | cons u r d=>
  cases y with
  | nil=>simp[Lib.compareBytes]
  | cons v q=>
   simp only[Lib.compareBytes];by_cases h1:u<v
   ·simp[h1,List.cons_lt_cons_iff]
   ·by_cases h2:v<u
    ·have c:u≠v:=λe=>by subst e;exact h1 h2
     simp[h1,h2,List.cons_lt_cons_iff,c]
    ·have f:u=v:=UInt8.le_antisymm (UInt8.not_lt.1 h2) (UInt8.not_lt.1 h1);subst f;simp[h1,d]
theorem Mm_:Go.Sort.SWO (ltOf λx y:ItP=>g3_ x.p.key y.p.key) where
 irrefl x:=by unfold ltOf;rw[decide_eq_false_iff_not,kh_];exact List.lt_irrefl _
 trans x y z h1 h2:=by unfold ltOf at *;rw [decide_eq_true_iff, kh_] at *;exact List.lt_trans h1 h2
 ntrans x y z h1 h2:=by unfold ltOf at *;rw [decide_eq_false_iff_not, kh_] at *;rw [List.not_lt] at *;exact List.le_trans h2 h1
theorem itP {w:World} {F:Nat->Prop} {x:C_} {c:Array Value} (h:PaR w F x c):∃g,B7_ g=c.toList/\g.p=x:=by
 obtain⟨s,rfl,i⟩:=h;obtain⟨A,d,f,_,_⟩:=i.inv;injection f with f;obtain rfl:s = .slice A x.v.list.length d:=by have:=congrArg (λa:Array Value=>a[5]?) f;simpa [c_] using this
 exact⟨⟨x,A,d⟩,rfl,rfl⟩
def ye_ (l c:List C_):Prop:=c.Perm l/\c.Pairwise (λa b=>¬g3_ b.key a.key<0)
theorem B8_ {w:World} {F:Nat->Prop} {l:List C_} {s:Value} (h:B_ 69 7 PaR w F l s) (d:l.length<=100000000) (j:∀b,F b->b<w.heap.size) :
    Calls Tryz.prog 223 #[s,.func (.func 224) #[] #[]] w λe w'=>e = .returned (.tuple #[])/\∃c:List C_,ye_ l c/\SlR 7 PaR w' F c s/\Turn (λb=>s.ownBlock=some b) w w':=
 (o1_ Tryz.gsortP PaR.good (by decide) Tryz.isAgg69 Tryz.sizeOf69 B7_ ItP.p (λ_=>rfl) (λx v f=>by simp[B7_]at f;rcases f with rfl | rfl | rfl | rfl | rfl | rfl | rfl<;>rfl) itP (λa b=>g3_ a.key b.key) Mm_ 224 (enters_of Tryz.func224 (by kernel_rfl) rfl) v0_ h d j).mono λ_ _ ⟨i,c,h1,h2,g,m⟩=>⟨i,c,⟨h1,h2⟩,g,m⟩
theorem cv_ {B:Nat} {w w':World} (h:Below B w.drew w'):Below B w w':=⟨h.os,h.tape,h.output,h.size,h.block⟩
def v1_ (p:C_):Prop:=∀x,x∈p.v.list->x.list=[]
def Jd_ (l:List C_) (w:World) (e:Ending) (w':World):Prop:=
 ∃s,e = .returned s/\Below w.heap.size w w'/\∃a:List C_,ye_ l a/\SlR 7 PaR w' (λb=>w.heap.size<=b/\b<w'.heap.size) a s
theorem rm_ (l:List C_) (a2:∀p,p∈l->F6_ p/\v1_ p) (af:l.length<=2000000) (F:Nat->Prop) (A:Option Addr) (n au:Nat) (w:World) (hF:∀g,F g->g<w.heap.size) (hl:SRd 7 PaR w F l A n) :
    Calls Tryz.prog 154 #[.slice A n au] w (Jd_ l w):=by
 have HL:=q_ hl;have HF:=q_ hF;have ah:=q_ a2;have T:=q_ hl.1;have b3:n<=2000000:=by rw[hl.1];exact af
 clear hl hF a2;go_enter Tryz.func154,Tryz.ntmps154
 go_wp2_with fail;go_loopw [3,8] (λs3 s8 wr=>∃k:Nat,k<=n/\s8 = .int .i64 (k:Nat)/\Q_ (Below w.heap.size w wr)/\Q_ (B_ 69 7 PaR wr (λb=>w.heap.size<=b/\b<wr.heap.size) (l.take k) s3)) (λ_ s8 _=>n-(intOf s8).toNat)
 case atStart=>exact⟨0,by omega,rfl,q_ (Below.refl _ _),q_ (B_.nil ..)⟩
 case round=>
  obtain⟨k,hk,rfl,hB,hO⟩:=hrel;by_cases ap:k<n
  ·obtain⟨x,hx⟩:∃x,l[k]?=some x:=⟨l[k]'(by rw[<-T.o];exact ap),List.getElem?_eq_getElem _⟩;have HX:=q_ hx;have a8:=q_ (ah.o x (List.mem_of_getElem? hx));have Z:(l.take k).length=k:=by rw[List.length_take];have:=T.o;omega
   obtain⟨A3,c3,h3⟩:=hO.o.form;rw[Z]at h3;subst h3;have S:=q_ Z;obtain⟨ad,s,rfl,am,hv,c0,c1,c2,av,c4,c5,c6⟩:=zh_ (HL.o.under PaR.good hB.o HF.o) hx;obtain⟨B,cb,L,_,_⟩:=hv.inv;injection L with L;obtain rfl:s = .slice B x.v.list.length cb:=by have:=congrArg (λa:Array Value=>a[5]?) L;simpa [c_] using this
   have HV:=q_ hv;clear hx am hv L Z;obtain⟨C,J⟩:=a_ x.v.list.length;rw[J.o]at c6 HV;obtain⟨z,Hz⟩:=a_ wr.heap.size;obtain⟨w5,O⟩:=a_ (wr.alloc (.cells #[.string x.key,.int .i64 x.v.kind,.bool x.v.truth,.int .i64 x.v.num,.string x.v.text,.string x.v.extra,.slice B C cb] 69));have D:=q_ (show Below wr.heap.size wr w5 from by rw[<-O.o];exact (Below.refl _ _).alloc (Nat.le_refl _) _);have f:=q_ (show w5.heap[z]?=some (.cells #[.string x.key,.int .i64 x.v.kind,.bool x.v.truth,.int .i64 x.v.num,.string x.v.text,.string x.v.extra,.slice B C cb] 69 (0,0)) from by rw[<-O.o,<-Hz.o];exact heap_alloc_new wr _);have a4:=q_ (show w5.heap.size=z+1 from by rw[<-O.o,<-Hz.o];simp);have e1:(0:Int)<=k:=by omega
   have e2:(k:Int)<n:=by omega
   go_upto_region 5 with fail;rw[O.o,Hz.o];have a1:w.heap.size<=wr.heap.size:=hB.o.size;have a6:=q_ (yd_ x.v a8.o.2 a8.o.1.2 F _ w5.drew (λg hg=>Nat.lt_of_lt_of_le (HF.o g hg) (Nat.le_trans a1 D.o.size)) ((HV.o.under D.o (λg hg=>Nat.lt_of_lt_of_le (HF.o g hg) a1)).drewN 1));unfold c_ at a6;have d0:w5.drew.cell? ⟨z,0,none⟩=some (.string x.key):=cell_of_heap f.o 0;have d1:w5.drew.cell? ⟨z,1,none⟩=some (.int .i64 x.v.kind):=cell_of_heap f.o 1;have d2:w5.drew.cell? ⟨z,2,none⟩=some (.bool x.v.truth):=cell_of_heap f.o 2;have d3:w5.drew.cell? ⟨z,3,none⟩=some (.int .i64 x.v.num):=cell_of_heap f.o 3;have d4:w5.drew.cell? ⟨z,4,none⟩=some (.string x.v.text):=cell_of_heap f.o 4;have d5:w5.drew.cell? ⟨z,5,none⟩=some (.string x.v.extra):=cell_of_heap f.o 5;have d6:w5.drew.cell? ⟨z,6,none⟩=some (.slice B C cb):=cell_of_heap f.o 6;obtain⟨cs,q,W,d,r⟩:=(hO.o.turn PaR.good (Turn.of_below D.o) (λb hb=>hb.2) (λb hb h=>by obtain⟨_,h1⟩:=hb;omega));rw[S.o]at q W;have ae:=q_ q;have N:=q_ (And.intro W (And.intro d r));clear c0 c1 c2 av c4 c5 c6 q W d r;obtain⟨i0,ar,ag,ac,ab⟩:=info_parts Gd_;go_region_law (first | (refine step_append_lies _ rfl _ _ 70 rfl 0 69 i0 (.agg #[.string ⟨#[]⟩,.int .i64 0,.bool false,.int .i64 0,.string ⟨#[]⟩,.string ⟨#[]⟩,.slice none 0 0]) 7 96 Tryz.underlying70 ar ag ac ab rfl (by decide) (.slice A3 k c3) k (N_ cs k) rfl (by exact a3.o.alloc _) ⟨w6.heap.size,0,none⟩ 1 1 [.string x.key,.int .i64 x.v.kind,.bool x.v.truth,.int .i64 x.v.num,.string x.v.text,.string x.v.extra,.slice M C m] rfl rfl (World.news_of_block (cs:=#[.string x.key,.int .i64 x.v.kind,.bool x.v.truth,.int .i64 x.v.num,.string x.v.text,.string x.v.extra,.slice M C m]) (by exact NB.o)) ai.o (by omega) (by unfold maxLen;omega) (by omega) (Nat.zero_le _) (w6.heap.size+1) (by exact ak.o) (λg7 c7 w7 I j a5 _=>?_);have aj:=q_ I;have a0:=q_ (show w6.grownBy w7 (Value.slice A3 k c3).ownBlock from a5_ (w:=w6) (o:=.cells #[.string x.key,.int .i64 x.v.kind,.bool x.v.truth,.int .i64 x.v.num,.string x.v.text,.string x.v.extra,.slice M C m] 69) ⟨j.os,j.tape,j.output,j.size,j.block⟩);have a9:=q_ (show (Value.slice A3 k c3).ownBlock=some g7\/g7=w6.heap.size+1 from a5);clear I j a5) | (go_simp;go_at_call 222;(with_reducible refine a6.o.mono ?_);rintro e w6 ⟨M,m,rfl,U,Y⟩;rw[J.o]at Y;unfold c_;rw[J.o];have X:=q_ U;have aw:=q_ Y;have a3:=q_ ((Turn.of_below U).owns ae.o (λg hg h=>by have:=N.o.2.1 g hg;have h2:w5.heap.size<=g:=h;have:=D.o.size;omega));have b0:w6.cell? ⟨z,0,none⟩=some (.string x.key):=cell_of_heap ((U.block z (by show z<w5.heap.size;rw[a4.o];omega)).trans f.o) 0;have ai:=q_ (show ∀u∈([.string x.key,.int .i64 x.v.kind,.bool x.v.truth,.int .i64 x.v.num,.string x.v.text,.string x.v.extra,.slice M C m]:List Value),u.oneCell'=true from λu L=>by simp at L;rcases L with rfl | rfl | rfl | rfl | rfl | rfl | rfl<;>rfl);have NB:=q_ (heap_alloc_new w6 (.cells #[.string x.key,.int .i64 x.v.kind,.bool x.v.truth,.int .i64 x.v.num,.string x.v.text,.string x.v.extra,.slice M C m] 69));have ak:=q_ (show (w6.alloc (.cells #[.string x.key,.int .i64 x.v.kind,.bool x.v.truth,.int .i64 x.v.num,.string x.v.text,.string x.v.extra,.slice M C m] 69)).heap.size=w6.heap.size+1 by simp);clear U Y))
   all_goals (
    have w1:IntKind.i64.wrap ((k:Int)+1)=(k:Int)+1:=IntWalk.i64_in _ (by omega);go_wp2_with fail;go_roundw)
   all_goals first
    | (case measure=>simp[intOf];omega)
    | (case rel=>
        obtain⟨W,d,r⟩:=N.o;have b1:w5.heap.size<=w6.heap.size:=X.o.size;have az:w6.heap.size<=w7.heap.size:=a0.o.size;have ay:=a4.o;have hz:=Hz.o;have I:=aj.o;have j:g7<w7.heap.size:=(I.lt g7 rfl).2
        have a7:=hv_ (w5:=w6) (w6:=w7) (R:=PaR) (E:=69) (sz:=7) (F:=λb=>w.heap.size<=b/\b<wr.heap.size) (G:=λb=>w5.heap.size<=b/\b<w6.heap.size) (l:=l.take k) (x:=x) (s:=.slice A3 k c3) (c:=cq_ x (.slice M x.v.list.length m)) (g4:=g7) (c4:=c7) (cs:=cs) PaR.good
         (λi hi=>W i (by rw[S.o]at hi;exact hi)) (λi y hy=>PaR.good.keep (r i y hy) (λp V=>X.o.cell (show p.block<w5.heap.size from by have:=V.1.2;omega)))
         ⟨_,rfl,by rw[J.o];exact aw.o⟩ rfl (λb hb e=>by have:=(d b e).2;have:=hb.1;omega) (λb hb=>by have:=hb.2;omega) (λb hb=>hb.2) (by rw[S.o];unfold cq_;rw[J.o];exact I) a0.o (by rcases a9.o with e | e;exact .inl e;exact .inr (by omega))
        rw[S.o]at a7;refine⟨k+1,by omega,by go_num,q_ ?_,q_ ?_⟩
        ·exact ((hB.o.trans (D.o.mono (by omega))).trans ((cv_ X.o).mono (show w.heap.size<=w5.heap.size from by omega))).trans ((Turn.of_grown a0.o).below (λb _ hb=>(d b hb.symm).1) (by omega))
        ·rw[g_ HX.o];refine a7.mono PaR.good λb hb=>?_;rcases hb with hb | hb | hb
         ·exact⟨hb.1,by have:=hb.2;omega⟩
         ·exact⟨by have:=hb.1;omega,by have:=hb.2;omega⟩
         ·subst hb;refine⟨?_,j⟩;rcases a9.o with h | h
          ·exact (d b h).1
          ·omega)
  ·have ao:k=n:=by omega
   subst ao;have aq:=q_ (show l.take k=l from List.take_of_length_le (by rw[T.o];exact Nat.le_refl _));obtain⟨A3,c3,h3⟩:=hO.o.form;rw[aq.o]at hO h3;subst h3;have aa:=hO;have HS:=q_ (B8_ aa.o (by rw[<-T.o];omega) (λb hb=>hb.2));go_wp2_with fail;refine HS.o.mono ?_;rintro e w6 ⟨rfl,l',V,r,ht⟩;have HR:=q_ (And.intro V (And.intro r ht));clear V r ht;go_wp2_with fail;go_ret;obtain⟨V,r,ht⟩:=HR.o;obtain⟨cs,q,W,d,b2⟩:=aa.o;refine⟨_,rfl,hB.o.trans (ht.below (λi _ hi=>(d i hi).1) hB.o.size),l',V,r.mono PaR.good (λb hb=>⟨hb.1,Nat.lt_of_lt_of_le hb.2 ht.size⟩)⟩
end
section
open Go Go.RowKit Go.Shelf Go.Sort Go.Proofs
theorem tg_ {w:World} {g n:Nat} {d:Array (List UInt8)} {os:Array Obj}:Turn (λb=>b=g) w (grow (putRow encStr (Sort.ahead w n) g 0 d) os):=by refine⟨rfl,rfl,rfl,by simp,λi hi a=>?_⟩;rw[heap_grow_old _ _ (by simpa using hi)];have:g≠i:=λe=>a e.symm;simp[putRow,mapBlock,Sort.ahead,Array.getElem?_modify,this]
def Ge_ (l c:List ByteArray):Prop:=c.Perm l/\c.Pairwise (λa b=>¬g3_ b a<0)
theorem th_ {w:World} {F:Nat->Prop} {l:List ByteArray} {s:Value} (h:B_ 9 1 TxR w F l s) (O:l.length<=100000000) :
    Calls Tryz.prog 153 #[s] w λe w'=>e = .returned (.tuple #[])/\∃C:List ByteArray,Ge_ l C/\SlR 1 TxR w' F C s/\Turn (λb=>s.ownBlock=some b) w w':=by
 obtain⟨cs,o,S,M,U⟩:=h;rcases o.2 with⟨z,h0⟩ | ⟨b,u,X,z,_,hb,y,T,W,N⟩
 ·subst z;have L:l=[]:=List.eq_nil_of_length_eq_zero h0;subst L;refine (Any.slices_Sort_string_none Tryz.lays190 none 0 w).mono λe w' ⟨v,g⟩=>⟨v,[],⟨List.Perm.refl _,List.Pairwise.nil⟩,?_,?_⟩
  ·rw[g];exact SlR.nil ..
  ·rw[g];exact Turn.refl _ _
 ·subst z;have q:=b_ hb;have I:(l.map λs=>s.data.toList).toArray.size=l.length:=by simp
  have A:Holds encStr w b 0 (l.map λs=>s.data.toList).toArray:=by intro j p;rw[I]at p;refine⟨?_,by simp[World.frozen?,hb]⟩;have h2:=o.cellAt j (by omega);have B:=bt_ S p (show 0<1 by omega);rw[Nat.mul_one,Nat.add_zero]at B;rw[B,U j _ (List.getElem?_eq_getElem p)]at h2;rw[Nat.zero_add,h2,getElem!_pos _ j (by simpa using p)];simp[encStr]
  have r:=Any.slices_Sort_string Tryz.lays190 b 0 u (l.map λs=>s.data.toList) w A q (by simp;omega);rw[List.length_map]at r;refine r.mono λe w' ⟨v,n,os,g⟩=>⟨v,((l.map λs=>s.data.toList).mergeSort leB).map t0_,⟨?_,?_⟩,?_,?_⟩
  ·refine ((List.mergeSort_perm _ _).map t0_).trans (List.Perm.of_eq ?_);rw[List.map_map];exact (List.map_congr_left (λx _=>by simp[t0_])).trans (List.map_id _)
  ·rw[List.pairwise_map];have V : ∀ a b c : List UInt8, leB a b = true -> leB b c = true -> leB a c = true := λa b c h1 h2 => by simp only [leB, decide_eq_true_eq] at *; exact List.le_trans h1 h2
   have D:∀a b:List UInt8,(leB a b || leB b a)=true:=λa b=>by simp only[leB,Bool.or_eq_true,decide_eq_true_eq];exact List.le_total a b
   refine (List.pairwise_mergeSort V D _).imp fun {a b} h=>?_;rw[kh_];simp only[leB,decide_eq_true_eq]at h;simpa [t0_,List.not_lt] using h
  ·have f:((l.map λs=>s.data.toList).mergeSort leB).length=l.length:=by rw[List.length_mergeSort,List.length_map]
   have J:Holds encStr w' b 0 ((l.map λs=>s.data.toList).mergeSort leB).toArray:=by rw[g];exact holds_sortWorld encStr w b 0 n _ _ os q A (by simp)
   refine⟨some ⟨b,0,none⟩,u,by simp,by simp;exact y,by simp,λ_=>⟨_,rfl,M b rfl,λi x m=>⟨#[.string x],rfl,λj p=>?_,rfl⟩⟩⟩;have d:=by_ m;rw[List.length_map,f]at d;obtain rfl:j=0:=by omega
   have h2:=(J i (by simpa [f] using d)).1;rw[List.getElem?_map,List.getElem?_eq_getElem (by rw[f];exact d)]at m;injection m with m;subst m;rw[Addr.add_lit,Nat.mul_one,Nat.add_zero,h2,getElem!_pos _ i (by simpa [f] using d)];simp[encStr,t0_]
  ·rw[g];exact tg_.mono λi _ hi=>by rw[hi];rfl
def ij_ (n a:i_):Prop:=a.id=n.id/\Ge_ n.labels a.labels/\ye_ n.props a.props
def Gf_ (n:i_) (w:World) (e:Ending) (w':World):Prop:=
 ∃c a,e = .returned (.agg c)/\Below w.heap.size w w'/\ij_ n a/\NoR w' (λb=>w.heap.size<=b/\b<w'.heap.size) a c
def jg_ (e a:m_):Prop:=a.id=e.id/\a.src=e.src/\a.dst=e.dst/\a.type=e.type/\ye_ e.props a.props
def Ld_ (x:m_) (w:World) (e:Ending) (w':World):Prop:=
 ∃c a,e = .returned (.agg c)/\Below w.heap.size w w'/\jg_ x a/\EdR w' (λb=>w.heap.size<=b/\b<w'.heap.size) a c
def qi_ (n:i_):Prop:=n.labels.length<=2000000/\n.props.length<=2000000/\(∀s,s∈n.labels->s.size<=2000000)/\∀p,p∈n.props->F6_ p
def zi_ (n:i_):Prop:=∀p,p∈n.props->v1_ p
def L8_ (x:m_):Prop:=x.type.size<=2000000/\x.props.length<=2000000/\∀p,p∈x.props->F6_ p
def Gg_ (x:m_):Prop:=∀p,p∈x.props->v1_ p
theorem B_.tx {w:World} {F F':Nat->Prop} {l:List ByteArray} {s:Value} {E:Nat} (h:B_ E 1 TxR w F l s) (a:∀g,s.ownBlock=some g->F' g):B_ E 1 TxR w F' l s:=by obtain⟨cs,h1,h2,_,c⟩:=h;exact⟨cs,h1,h2,a,c⟩
theorem pk_ (n:i_) (a0:qi_ n) (a2:zi_ n) (F:Nat->Prop) (c:Array Value) (w:World) (hF:∀g,F g->g<w.heap.size) (hn:NoR w F n c) :
    Calls Tryz.prog 91 #[.agg c] w (Gf_ n w):=by
 obtain⟨L,P,rfl,⟨A1,c1,rfl,b5,ar⟩,Z,U,rfl,b9,ao⟩:=hn;have HF:=q_ hF;have aq:=q_ ar;have aj:=q_ ao;have ag:=q_ a0;have ah:=q_ a2;obtain⟨id,Q_⟩:=a_ n.id;rw[Q_.o];obtain⟨a,a7⟩:=a_ n.labels.length;obtain⟨m2,bc⟩:=a_ n.props.length;rw[a7.o]at aq ⊢;rw[bc.o]at aj ⊢;have bk:a<=2000000:=by rw[<-a7.o];exact a0.1
 clear hF ar ao a0 a2 b5 b9;obtain⟨z,j⟩:=a_ w.heap.size;obtain⟨B,S⟩:=a_ ((w.alloc (.cells #[.int .i64 id,.slice A1 a c1,.slice Z m2 U] 72)).alloc (.cells #[.int .i64 0,.slice none 0 0,.slice none 0 0] 72));have a6:=q_ (show Below w.heap.size w B from by rw[<-S.o];exact L_ w _ _);have f:=q_ (show B.heap.size=z+2 from by rw[<-S.o,<-j.o];simp);have am:=q_ (show B.heap[z]?=some (.cells #[.int .i64 id,.slice A1 a c1,.slice Z m2 U] 72 (0,0)) from by rw[<-S.o,<-j.o,Below.heap_alloc _ _ _ (by simp)];exact heap_alloc_new w _);have b3:=q_ (show B.heap[z+1]?=some (.cells #[.int .i64 0,.slice none 0 0,.slice none 0 0] 72 (0,0)) from by rw[<-S.o,<-j.o];have:=heap_alloc_new (w.alloc (.cells #[.int .i64 id,.slice A1 a c1,.slice Z m2 U] 72)) (.cells #[.int .i64 0,.slice none 0 0,.slice none 0 0] 72);simpa using this);have HC:=q_ (ya_ n.labels F A1 a c1 (by omega) B (λg hg=>by have:=HF.o g hg;have:=a6.o.size;omega) (aq.o.under TxR.good a6.o HF.o));have b1:B.cell? ⟨z,1,none⟩=some (.slice A1 a c1):=cell_of_heap am.o 1;go_enter Tryz.func91,Tryz.ntmps91
 go_upto_region 1 with fail;rw[S.o,j.o];go_wp2_with fail;refine HC.o.mono ?_;rintro e r ⟨s3,rfl,N,O,af⟩;obtain⟨x,u,rfl⟩:=O.form;rw[a7.o]at O af ⊢;have b6:=q_ N;have b8:=q_ (O.tx (F':=λb=>B.heap.size<=b/\b<r.heap.size) (λg hg=>⟨af g hg,by obtain⟨cs,h1,_⟩:=O;exact (h1.lt g hg).2⟩));have X:=q_ ((N.block z (by rw[f.o];omega)).trans am.o);have b0:=q_ ((N.block (z+1) (by rw[f.o];omega)).trans b3.o);have bj:z+2<=r.heap.size:=by have:=N.size;have:=f.o;omega
 clear N O af b1;have d1:r.cell? ⟨z,1,none⟩=some (.slice A1 a c1):=cell_of_heap X.o 1;have f1:r.frozen? ⟨z,1,none⟩=false:=Lib.frozen_of_heap X.o 1;go_upto_region 2 with fail;obtain⟨w4,ae⟩:=a_ (r.setCell ⟨z,1,none⟩ (.slice x a u));have a4:=q_ (show Turn (λb=>b=z) r w4 from by rw[<-ae.o];exact (Turn.refl (λb=>b=z) r).setCell (p:=⟨z,1,none⟩) (.inr rfl) _);have ab:=q_ (show w4.heap[z]?=some (.cells #[.int .i64 id,.slice x a u,.slice Z m2 U] 72 (0,0)) from by rw[<-ae.o];exact heap_setCell_same r z 1 _ _ _ X.o);have aw:=q_ ((a4.o.block (z+1) (by omega) (by omega)).trans b0.o);have au:=q_ (b8.o.turn TxR.good a4.o (λb hb=>hb.2) (λb hb e=>by have:=hb.1;have:=f.o;omega));have HS:=q_ (th_ au.o (by rw[a7.o];omega));rw[ae.o];have g1:w4.cell? ⟨z,1,none⟩=some (.slice x a u):=cell_of_heap ab.o 1;clear d1 f1;go_wp2_with fail;refine HS.o.mono ?_;rintro e w5 ⟨rfl,labels,ac,av,y⟩;have q:∀b,(Value.slice x a u).ownBlock=some b->B.heap.size<=b:=λb hb=>by obtain⟨cs,_,_,b4,_⟩:=au.o;exact (b4 b hb).1
 have bi:=q_ q;have ay:=q_ ac;have b7:=q_ av;have bh:=q_ y;have bd:r.heap.size<=w4.heap.size:=a4.o.size;have bg:w4.heap.size<=w5.heap.size:=y.size;have aa:=q_ ((y.block z (by omega) (λh=>by have:=q z h;have:=f.o;omega)).trans ab.o);have b2:=q_ ((y.block (z+1) (by omega) (λh=>by have:=q (z+1) h;have:=f.o;omega)).trans aw.o)
 have a5:=q_ (show Below w.heap.size w w5 from
  ((a6.o.trans (b6.o.mono a6.o.size)).trans (a4.o.below (λi _ hi=>by have:=j.o;omega) (by have:=j.o;omega))).trans (y.below (λi _ hi=>by have:=q i hi;have:=f.o;have:=j.o;omega) (by have:=j.o;omega)))
 have HP:=q_ (rm_ n.props (λp V=>⟨ag.o.2.2.2 p V,ah.o p V⟩) ag.o.2.1 F Z m2 U w5 (λg hg=>Nat.lt_of_lt_of_le (HF.o g hg) a5.o.size) (aj.o.under PaR.good a5.o HF.o));have g2:w5.cell? ⟨z,2,none⟩=some (.slice Z m2 U):=cell_of_heap aa.o 2;clear ac av y q g1;go_wp2_with fail;refine HP.o.mono ?_;rintro e w6 ⟨s6,rfl,J,props,ap,C,A,rfl,M,D⟩;obtain⟨T,a3⟩:=a_ props.length;rw[a3.o]at D M ⊢;have ak:=q_ J;have bb:=q_ ap;have ba:=q_ (And.intro M D);have bf:w5.heap.size<=w6.heap.size:=J.size;have Y:=q_ ((J.block z (by omega)).trans aa.o);have az:=q_ ((J.block (z+1) (by omega)).trans b2.o);have g2:w6.cell? ⟨z,2,none⟩=some (.slice Z m2 U):=cell_of_heap Y.o 2;have f2:w6.frozen? ⟨z,2,none⟩=false:=Lib.frozen_of_heap Y.o 2;clear J ap M D;go_upto_region 4 with fail;obtain⟨m,a9⟩:=a_ (w6.setCell ⟨z,2,none⟩ (.slice C T A));have ai:=q_ (show Turn (λb=>b=z) w6 m from by rw[<-a9.o];exact (Turn.refl (λb=>b=z) w6).setCell (p:=⟨z,2,none⟩) (.inr rfl) _);have W:=q_ (show m.heap[z]?=some (.cells #[.int .i64 id,.slice x a u,.slice C T A] 72 (0,0)) from by rw[<-a9.o];exact heap_setCell_same w6 z 2 _ _ _ Y.o);have d:=q_ ((ai.o.block (z+1) (by omega) (by omega)).trans az.o);rw[a9.o];have g0:m.cell? ⟨z,0,none⟩=some (.int .i64 id):=cell_of_heap W.o 0;have g1:m.cell? ⟨z,1,none⟩=some (.slice x a u):=cell_of_heap W.o 1;have g2:m.cell? ⟨z,2,none⟩=some (.slice C T A):=cell_of_heap W.o 2;have r0:m.cell? ⟨z+1,0,none⟩=some (.int .i64 0):=cell_of_heap d.o 0;have y0:m.frozen? ⟨z+1,0,none⟩=false:=Lib.frozen_of_heap d.o 0;have r1:m.cell? ⟨z+1,1,none⟩=some (.slice none 0 0):=cell_of_heap d.o 1;have y1:m.frozen? ⟨z+1,1,none⟩=false:=Lib.frozen_of_heap d.o 1;have r2:m.cell? ⟨z+1,2,none⟩=some (.slice none 0 0):=cell_of_heap d.o 2;have y2:m.frozen? ⟨z+1,2,none⟩=false:=Lib.frozen_of_heap d.o 2;go_wp2_with fail;obtain⟨w9,a8⟩:=a_ (((m.setCell ⟨z+1,0,none⟩ (.int .i64 id)).setCell ⟨z+1,1,none⟩ (.slice x a u)).setCell ⟨z+1,2,none⟩ (.slice C T A));have a1:w9.heap[z+1]?=some (.cells #[.int .i64 id,.slice x a u,.slice C T A] 72 (0,0)):=by rw[<-a8.o];exact heap_setCell_same _ (z+1) 2 _ _ _ (heap_setCell_same _ (z+1) 1 _ _ _ (heap_setCell_same _ (z+1) 0 _ _ _ d.o))
 have I:=q_ (show Turn (λb=>b=z\/b=z+1) w6 w9 from by rw[<-a8.o];exact (((ai.o.mono (S':=λb=>b=z\/b=z+1) (λi _ h=>.inl h)).setCell (p:=⟨z+1,0,none⟩) (.inr (.inr rfl)) _).setCell (p:=⟨z+1,1,none⟩) (.inr (.inr rfl)) _).setCell (p:=⟨z+1,2,none⟩) (.inr (.inr rfl)) _);rw[a8.o];have q0:w9.cell? ⟨z+1,0,none⟩=some (.int .i64 id):=cell_of_heap a1 0;have q1:w9.cell? ⟨z+1,1,none⟩=some (.slice x a u):=cell_of_heap a1 1;have q2:w9.cell? ⟨z+1,2,none⟩=some (.slice C T A):=cell_of_heap a1 2;clear a1 r0 r1 r2 y0 y1 y2 g0 g1 g2 f2;go_wp2_with fail;refine bodyPost_ret (v:=.agg #[.int .i64 id,.slice x a u,.slice C T A]) (by simp[results,Tryz.results91,go_sem,q0,q1,q2]) rfl ⟨_,⟨id,labels,props⟩,rfl,?_,⟨Q_.o.symm,ay.o,bb.o⟩,_,_,rfl,?_,?_⟩
 ·exact (a5.o.trans (ak.o.mono a5.o.size)).trans (I.o.below (λi _ h=>by have:=j.o;omega) (by have:=j.o;omega))
 ·have hk:∀p:Addr,B.heap.size<=p.block/\p.block<r.heap.size->w9.cell? p=w5.cell? p:=λp V=>
    (I.o.cell (by omega) (λh=>by have:=V.1;have:=f.o;omega)).trans (ak.o.cell (by omega))
  refine SlR.mono TxR.good (SlR.keep TxR.good b7.o hk) λb hb=>⟨?_,?_⟩
  ·have:=hb.1;have:=f.o;have:=j.o;omega
  ·have:=hb.2;have:=I.o.size;omega
 ·obtain⟨M,D⟩:=ba.o
  have hk:∀p:Addr,w5.heap.size<=p.block/\p.block<w6.heap.size->w9.cell? p=w6.cell? p:=λp V=>
   I.o.cell V.2 (λh=>by have:=V.1;omega)
  refine SlR.mono PaR.good (SlR.keep (s:=.slice C T A) PaR.good ⟨C,A,by rw[a3.o],by rw[a3.o];exact M,by rw[a3.o];exact D⟩ hk) λb hb=>⟨?_,?_⟩
  ·have:=hb.1;have:=j.o;omega
  ·have:=hb.2;have:=I.o.size;omega
theorem v2_ (x:m_) (Y:L8_ x) (O:Gg_ x) (F:Nat->Prop) (c:Array Value) (w:World) (hF:∀g,F g->g<w.heap.size) (hn:EdR w F x c) :
    Calls Tryz.prog 93 #[.agg c] w (Ld_ x w):=by
 obtain⟨P,rfl,U,T,rfl,ag,a6⟩:=hn;have HF:=q_ hF;have a8:=q_ a6;have a2:=q_ Y;have a4:=q_ O;obtain⟨id,Q_⟩:=a_ x.id;obtain⟨src,a3⟩:=a_ x.src;obtain⟨dst,Z⟩:=a_ x.dst;obtain⟨f,a0⟩:=a_ x.type;obtain⟨V,aa⟩:=a_ x.props.length;rw[aa.o]at a8;rw[Q_.o,a3.o,Z.o,a0.o,aa.o];clear hF a6 Y O ag;obtain⟨z,L⟩:=a_ w.heap.size;obtain⟨I,y⟩:=a_ ((w.alloc (.cells #[.int .i64 id,.int .i64 src,.int .i64 dst,.string f,.slice U V T] 74)).alloc (.cells #[.int .i64 0,.int .i64 0,.int .i64 0,.string ⟨#[]⟩,.slice none 0 0] 74));have N:=q_ (show Below w.heap.size w I from by rw[<-y.o];exact L_ w _ _);have q:=q_ (show I.heap.size=z+2 from by rw[<-y.o,<-L.o];simp);have a9:=q_ (show I.heap[z]?=some (.cells #[.int .i64 id,.int .i64 src,.int .i64 dst,.string f,.slice U V T] 74 (0,0)) from by rw[<-y.o,<-L.o,Below.heap_alloc _ _ _ (by simp)];exact heap_alloc_new w _);have ac:=q_ (show I.heap[z+1]?=some (.cells #[.int .i64 0,.int .i64 0,.int .i64 0,.string ⟨#[]⟩,.slice none 0 0] 74 (0,0)) from by rw[<-y.o,<-L.o];have:=heap_alloc_new (w.alloc (.cells #[.int .i64 id,.int .i64 src,.int .i64 dst,.string f,.slice U V T] 74)) (.cells #[.int .i64 0,.int .i64 0,.int .i64 0,.string ⟨#[]⟩,.slice none 0 0] 74);simpa using this);have HP:=q_ (rm_ x.props (λp hp=>⟨a2.o.2.2 p hp,a4.o p hp⟩) a2.o.2.1 F U V T I (λg hg=>by have:=HF.o g hg;have:=N.o.size;omega) (a8.o.under PaR.good N.o HF.o));have b4:I.cell? ⟨z,4,none⟩=some (.slice U V T):=cell_of_heap a9.o 4;go_enter Tryz.func93,Tryz.ntmps93
 go_upto_region 1 with fail;rw[y.o,L.o];go_wp2_with fail;refine HP.o.mono ?_;rintro e w6 ⟨s6,rfl,A,props,a7,u,r,rfl,C,D⟩;obtain⟨B,S⟩:=a_ props.length;rw[S.o]at D C ⊢;have ae:=q_ A;have af:=q_ a7;have ah:=q_ (And.intro C D);have ai:I.heap.size<=w6.heap.size:=A.size;have M:=q_ ((A.block z (by rw[q.o];omega)).trans a9.o);have ab:=q_ ((A.block (z+1) (by rw[q.o];omega)).trans ac.o);have g4:w6.cell? ⟨z,4,none⟩=some (.slice U V T):=cell_of_heap M.o 4;have f4:w6.frozen? ⟨z,4,none⟩=false:=Lib.frozen_of_heap M.o 4;clear A a7 C D b4;go_upto_region 2 with fail;obtain⟨d,a1⟩:=a_ (w6.setCell ⟨z,4,none⟩ (.slice u B r));have a5:=q_ (show Turn (λb=>b=z) w6 d from by rw[<-a1.o];exact (Turn.refl (λb=>b=z) w6).setCell (p:=⟨z,4,none⟩) (.inr rfl) _);have j:=q_ (show d.heap[z]?=some (.cells #[.int .i64 id,.int .i64 src,.int .i64 dst,.string f,.slice u B r] 74 (0,0)) from by rw[<-a1.o];exact heap_setCell_same w6 z 4 _ _ _ M.o);have a:=q_ ((a5.o.block (z+1) (by have:=q.o;omega) (by omega)).trans ab.o);rw[a1.o];have g0:d.cell? ⟨z,0,none⟩=some (.int .i64 id):=cell_of_heap j.o 0;have g1:d.cell? ⟨z,1,none⟩=some (.int .i64 src):=cell_of_heap j.o 1;have g2:d.cell? ⟨z,2,none⟩=some (.int .i64 dst):=cell_of_heap j.o 2;have g3:d.cell? ⟨z,3,none⟩=some (.string f):=cell_of_heap j.o 3;have r0:d.cell? ⟨z+1,0,none⟩=some (.int .i64 0):=cell_of_heap a.o 0;have y0:d.frozen? ⟨z+1,0,none⟩=false:=Lib.frozen_of_heap a.o 0;have r1:d.cell? ⟨z+1,1,none⟩=some (.int .i64 0):=cell_of_heap a.o 1;have y1:d.frozen? ⟨z+1,1,none⟩=false:=Lib.frozen_of_heap a.o 1;have r2:d.cell? ⟨z+1,2,none⟩=some (.int .i64 0):=cell_of_heap a.o 2;have y2:d.frozen? ⟨z+1,2,none⟩=false:=Lib.frozen_of_heap a.o 2;have r3:d.cell? ⟨z+1,3,none⟩=some (.string ⟨#[]⟩):=cell_of_heap a.o 3;have y3:d.frozen? ⟨z+1,3,none⟩=false:=Lib.frozen_of_heap a.o 3;have r4:d.cell? ⟨z+1,4,none⟩=some (.slice none 0 0):=cell_of_heap a.o 4;have y4:d.frozen? ⟨z+1,4,none⟩=false:=Lib.frozen_of_heap a.o 4;clear g4 f4;have g4:d.cell? ⟨z,4,none⟩=some (.slice u B r):=cell_of_heap j.o 4;go_wp2_with fail;obtain⟨J,W⟩:=a_ ((((((d.setCell ⟨z+1,0,none⟩ (.int .i64 id)).setCell ⟨z+1,1,none⟩ (.int .i64 src)).setCell ⟨z+1,2,none⟩ (.int .i64 dst)).setCell ⟨z+1,3,none⟩ (.string f)).setCell ⟨z+1,4,none⟩ (.slice u B r)))
 have m:J.heap[z+1]?=some (.cells #[.int .i64 id,.int .i64 src,.int .i64 dst,.string f,.slice u B r] 74 (0,0)):=by rw[<-W.o];exact (heap_setCell_same _ (z+1) 4 _ _ _ (heap_setCell_same _ (z+1) 3 _ _ _ (heap_setCell_same _ (z+1) 2 _ _ _ (heap_setCell_same _ (z+1) 1 _ _ _ (heap_setCell_same _ (z+1) 0 _ _ _ a.o)))))
 have X:=q_ (show Turn (λb=>b=z\/b=z+1) w6 J from by rw[<-W.o];exact ((((((a5.o.mono (S':=λb=>b=z\/b=z+1) (λi _ h=>.inl h)).setCell (p:=⟨z+1,0,none⟩) (.inr (.inr rfl)) _).setCell (p:=⟨z+1,1,none⟩) (.inr (.inr rfl)) _).setCell (p:=⟨z+1,2,none⟩) (.inr (.inr rfl)) _).setCell (p:=⟨z+1,3,none⟩) (.inr (.inr rfl)) _).setCell (p:=⟨z+1,4,none⟩) (.inr (.inr rfl)) _));rw[W.o];have q0:J.cell? ⟨z+1,0,none⟩=some (.int .i64 id):=cell_of_heap m 0;have q1:J.cell? ⟨z+1,1,none⟩=some (.int .i64 src):=cell_of_heap m 1;have q2:J.cell? ⟨z+1,2,none⟩=some (.int .i64 dst):=cell_of_heap m 2;have q3:J.cell? ⟨z+1,3,none⟩=some (.string f):=cell_of_heap m 3;have q4:J.cell? ⟨z+1,4,none⟩=some (.slice u B r):=cell_of_heap m 4;clear m r0 y0 g0 r1 y1 g1 r2 y2 g2 r3 y3 g3 r4 y4 g4;go_wp2_with fail;refine bodyPost_ret (v:=.agg #[.int .i64 id,.int .i64 src,.int .i64 dst,.string f,.slice u B r]) (by simp[results,Tryz.results93,go_sem,q0,q1,q2,q3,q4]) rfl ⟨_,⟨id,src,dst,f,props⟩,rfl,?_,⟨Q_.o.symm,a3.o.symm,Z.o.symm,a0.o.symm,af.o⟩,_,rfl,?_⟩
 ·exact (N.o.trans (ae.o.mono N.o.size)).trans (X.o.below (λi _ h=>by have:=L.o;omega) (by have:=L.o;have:=q.o;omega))
 ·obtain⟨C,D⟩:=ah.o
  have hk:∀p:Addr,I.heap.size<=p.block/\p.block<w6.heap.size->J.cell? p=w6.cell? p:=λp hp=>
   X.o.cell hp.2 (λh=>by have:=hp.1;have:=q.o;omega)
  refine SlR.mono PaR.good (SlR.keep (s:=.slice u B r) PaR.good ⟨u,r,by rw[S.o],by rw[S.o];exact C,by rw[S.o];exact D⟩ hk) λb hb=>⟨?_,?_⟩
  ·have:=hb.1;have:=L.o;have:=q.o;omega
  ·have:=hb.2;have:=X.o.size;omega
end
section
open Go Go.RowKit Go.Maps Go.WideMaps Go.WideElems Go.MapKept Go.ChangeMaps
theorem v3_ {es:List MapEntry} (f:es.Pairwise λx y=>x.key≠y.key) {i j:Nat} {a b:MapEntry} (hi:es[i]?=some a) (g:es[j]?=some b) (h:a.key=b.key):i=j:=by
 obtain⟨c,rfl⟩:=List.getElem?_eq_some_iff.1 hi;obtain⟨d,rfl⟩:=List.getElem?_eq_some_iff.1 g;rw[List.pairwise_iff_getElem]at f;rcases Nat.lt_trichotomy i j with h1 | h1 | h1
 ·exact absurd h (f i j c d h1)
 ·exact h1
 ·exact absurd h.symm (f j i d c h1)
section
variable {H:Type} {P:Program} {t k e:TypeId} {R:Value->Option (DataW H×List MemPlace)} {b:Nat} {es:Array MapEntry} {clock:Nat}
theorem B9_ (K:Keyed P k) (ht:P.underlying t=some (.map k e)) {z:Value} (hz:∀u:World,(zeroValue e).run P u = .ok z u) (F:Fit P k R es clock) {key:Value} {T:Lit} (f:keyOf P k key=some T) (w:World) (hb:w.heap[b]?=some (.map es clock)) :
    ∃(J:Value) (st:Nat) (es1:Array MapEntry) (clock1:Nat),(Instr.mapEntry t (.map (some b)) key).run P w = .ok (.tuple #[J,goInt st]) (setBlock w b (.map es1 clock1)) /\
     (∀d:World,d.heap[b]?=some (.map es clock)->(Instr.lookup t (.map (some b)) key false).run P d = .ok J d) /\
     ∀val:Value,∃B o,(∀w2:World,w2.heap[b]?=some (.map es1 clock1)->(Instr.entryStore t (.map (some b)) (goInt st) val).run P w2 = .ok () (setBlock w2 b (.map B o))) /\
      ∀d:World,d.heap[b]?=some (.map es clock)->(Instr.mapUpdate t (.map (some b)) key val).run P d = .ok () (setBlock d b (.map B o)):=by
 obtain⟨S,L,_⟩:=F.stamped;have U:es.toList.Pairwise (λx y=>x.key≠y.key):=((stamped_iff es clock).1 F.stamped).2.2;rcases K.find w f es.toList F.keys with⟨h1,h2⟩ | ⟨j,e0,h1,h2,v⟩
 ·have i:∀d:World,(Instr.findKey k key es.toList).run P d = .ok none d:=λd=>by
    rcases K.find d f es.toList F.keys with⟨C,_⟩ | ⟨j,e0,_,m,I⟩
    ·exact C
    ·exact absurd I (h2 e0 (List.mem_of_getElem? m))
  refine⟨z,clock,es.push ⟨key,z,clock⟩,clock+1,?_,λd g=>?_,λval=>⟨es.push ⟨key,val,clock⟩,clock+1,λw2 p=>?_,λd g=>?_⟩⟩
  ·simp[Instr.mapEntry,run_underlying ht,MapKept.run_getObj_map hb,K.check w false f,h1,hz,MapKept.run_setObj_map _ hb,Result.andThen,setBlock]
  ·simp[Instr.lookup,run_underlying ht,MapKept.run_getObj_map g,K.check d _ f,i d,hz,Result.andThen]
  ·have q:(es.push ⟨key,z,clock⟩).findIdx? (λe=>((e.born:Nat):Int)==((clock:Nat):Int))=some es.size:=by rw[findIdx_arr];have:=findIdx_born (l:=(es.push ⟨key,z,clock⟩).toList) (j:=es.size) (e0:=⟨key,z,clock⟩) (by simp only[Array.toList_push,List.map_append,List.map_cons,List.map_nil];refine List.nodup_append.2 ⟨L,by simp,λa V c O X=>?_⟩;simp only[List.mem_singleton]at O;obtain⟨x,N,rfl⟩:=List.mem_map.1 V;have:=S x N;omega) (by simp);exact this
   have r:(es.push ⟨key,z,clock⟩).modify es.size (λe=>{ e with val:=val })=es.push ⟨key,val,clock⟩:=by apply Array.ext';rw[Array.toList_modify,Array.toList_push,Array.toList_push,<-Array.length_toList,modify_last]
   simp[Instr.entryStore,MapKept.run_getObj_map p,asInt,asIntOf,goInt,q,r,MapKept.run_setObj_map _ p,Result.andThen,setBlock]
  ·simp[Instr.mapUpdate,run_underlying ht,MapKept.run_getObj_map g,K.check d false f,i d,MapKept.run_setObj_map _ g,Result.andThen,setBlock]
 ·have M:es[j]?=some e0:=by simpa using h2
  have h:∀d:World,(Instr.findKey k key es.toList).run P d = .ok (some (j,e0.val)) d:=λd=>by
   rcases K.find d f es.toList F.keys with⟨_,m⟩ | ⟨Y,W,C,m,I⟩
   ·exact absurd v (m e0 (List.mem_of_getElem? h2))
   ·obtain rfl:=v3_ U h2 m (by rw[v,I]);rw[h2]at m;injection m with m;rw[m];exact C
  have A:es.modify j (λe=>{ e with key:=key })=es:=by
   apply Array.ext';rw[Array.toList_modify,modify_eq_set _ _ _ _ h2];have:({ e0 with key:=key }:MapEntry)=e0:=by rw[<-v]
   rw[this];exact set_self _ _ _ h2
  refine⟨e0.val,e0.born,es,clock,?_,λd g=>?_,λval=>⟨es.modify j (λD=>{ D with key:=key,val:=val }),clock,λw2 p=>?_,λd g=>?_⟩⟩
  ·simp[Instr.mapEntry,run_underlying ht,MapKept.run_getObj_map hb,K.check w false f,h1,M,v,K.stays w f,A,MapKept.run_setObj_map _ hb,Result.andThen,setBlock]
  ·simp[Instr.lookup,run_underlying ht,MapKept.run_getObj_map g,K.check d _ f,h d,Result.andThen]
  ·have q:es.findIdx? (λe=>((e.born:Nat):Int)==((e0.born:Nat):Int))=some j:=by rw[findIdx_arr];exact findIdx_born L h2
   have r:es.modify j (λe=>{ e with val:=val })=es.modify j (λD=>{ D with key:=key,val:=val }):=by apply Array.ext';rw[Array.toList_modify,Array.toList_modify,modify_eq_set _ _ _ _ h2,modify_eq_set _ _ _ _ h2,<-v]
   simp[Instr.entryStore,MapKept.run_getObj_map p,asInt,asIntOf,goInt,q,r,MapKept.run_setObj_map _ p,Result.andThen,setBlock]
  ·simp[Instr.mapUpdate,run_underlying ht,MapKept.run_getObj_map g,K.check d false f,h d,M,v,K.stays d f,MapKept.run_setObj_map _ g,Result.andThen,setBlock]
end
theorem Gh_:laidOutB Tryz.prog=true:=by kernel_rfl
theorem Gi_:Keyed Tryz.prog 165:=Keyed.of_law (deep_law_laid (m:=9999) Gh_ (by decide) (of_decide_eq_true (by kernel_rfl)) (by kernel_rfl) (by kernel_rfl))
theorem Gj_:Tryz.prog.keyType 165=true:=by kernel_rfl
theorem Gk_:Tryz.prog.cellsOf 165=2:=by kernel_rfl
theorem Gl_:Tryz.prog.cellsOf 2=1:=by kernel_rfl
theorem Gm_:Tryz.prog.cellsOf 3=1:=by kernel_rfl
theorem Mn_ (a d:Int) (f:VI a) (c:VI d):∃l,keyOf Tryz.prog 165 (.agg #[.int .i64 a,.int .i64 d])=some l:=by obtain⟨m,g⟩:∃m,Tryz.prog.types.size=m+1:=⟨Tryz.prog.types.size-1,by kernel_rfl⟩;unfold VI at f c;unfold keyOf;rw[Tryz.underlying165,g];simp[Gj_,Value.formed,Tryz.underlying165,Gk_,Gl_,Gm_,Program.keyLits,Tryz.underlying2,Tryz.underlying3,Value.cells,f,c]
noncomputable def Gn_ (a d:Int):Lit:=match keyOf Tryz.prog 165 (.agg #[.int .i64 a,.int .i64 d]) with
 | some l=>l
 | none=>.bool false
theorem ki_ {a d:Int} (g:VI a) (f:VI d):keyOf Tryz.prog 165 (.agg #[.int .i64 a,.int .i64 d])=some (Gn_ a d):=by obtain⟨l,c⟩:=Mn_ a d g f;unfold Gn_;rw[c]
theorem Go_ {a d c f:Int} (m:VI a) (j:VI d) (g:VI c) (i:VI f) (h:Gn_ a d=Gn_ c f):a=c/\d=f:=by have h1:=ki_ m j;rw[h]at h1;have h2:=Gi_.inj h1 (ki_ g i);injection h2 with h2;injection h2 with h2;injection h2 with h2 h3;injection h3 with h3;injection h2 with _ h2;injection h3 with _ h3;exact⟨h2,h3⟩
def Kf_:DataW Unit->List (DataW Unit)
 | .slice es _=>es
 | _=>[]
open Go.ChangeShapes in
theorem lz_ {w:World} {c:Nat} {e:TypeId} {q:IntKind} {v:Value} {a:List Int} (h:w.ownsInts c e q v a):Kf_ (rowDatum (H:=Unit) q v a)=lits q a:=by
 rcases h.datum (H:=Unit) with⟨h1,h2⟩ | h1
 ·rw[h1,h2];rfl
 ·rw[h1];rfl
def yf_ (l:List Nat):List Int:=l.map Int.ofNat
def dg_ (w:World) (c m n:Nat) (H:Int->Int->List Nat):Prop:=
 ∃D:DataW Unit,w.ownsGroups Tryz.prog 165 c 3 .i64 m n D/\∀a d,VI a->VI d->Kf_ (D.atKey (Gn_ a d) .nil)=Go.ChangeShapes.lits .i64 (yf_ (H a d))
theorem dg_.isMap {w:World} {a m n:Nat} {D:DataW Unit} (h:w.ownsGroups Tryz.prog 165 a 3 .i64 m n D):IsMap D:=by obtain⟨es,clock,_,_,_,rfl,_⟩:=h;exact⟨_,rfl⟩
theorem v4_ {H:Type} {P:Program} {k:TypeId} {a:Nat} {e:TypeId} {q:IntKind} {b n:Nat} {D:DataW H} {w w':World} {S:Nat->Prop} (h:w.ownsGroups P k a e q b n D) (ht:Turn S w w') (hb:¬S b) (L:∀g,a<=g->¬S g):w'.ownsGroups P k a e q b n D:=by
 obtain⟨es,clock,m,F,I,rfl,p,o,A⟩:=h;have d:∀{v:Value} {i:List Int},w.ownsInts a e q v i->w'.ownsInts a e q v i:=λc=>⟨ht.owns c.1 (λg C=>L g (c.1.lt g C).1),c.2⟩;have r:∀x∈es.toList,∀z,rowElem (H:=H) w a e q x.val=some z->rowElem w' a e q x.val=some z:=by intro x _ z hz;obtain⟨J,c,rfl⟩:=rowElem_inv hz;exact rowElem_mk (d c)
 obtain⟨B,f,_⟩:=F.stay r;refine⟨es,clock,(ht.block b (b_ m) hb).trans m,B,I,by rw[f],p,λx u J c=>?_,A⟩;obtain⟨y,M⟩:=F.reads x u;obtain⟨z,hz,_⟩:=rd_val M;obtain⟨i,j,_⟩:=rowElem_inv hz;rw[c.unique (d j)];exact o x u i j
theorem dg_.turn {w w':World} {a m n:Nat} {H:Int->Int->List Nat} {S:Nat->Prop} (h:dg_ w a m n H) (ht:Turn S w w') (c:¬S m) (d:∀g,a<=g->¬S g):dg_ w' a m n H:=by obtain⟨D,h1,h2⟩:=h;exact⟨D,v4_ h1 ht c d,h2⟩
theorem qj_ (w:World) (b:Nat) (o a:Obj):setBlock (setBlock w b o) b a=setBlock w b a:=by unfold setBlock;simp
def dh_ (H:Int->Int->List Nat) (a d:Int) (x:Nat):Int->Int->List Nat:=λc f=>if c=a/\f=d then H a d++[x] else H c f
def fm_ (w:World) (b:Nat):Prop:=∀(cs:Array Value) (e:TypeId) (f:Nat×Nat),w.heap[b]?=some (.cells cs e f)->e=3
theorem v5_ {w:World} {b:Nat} (h:w.heap.size<=b):fm_ w b:=λcs e f hb=>by
 rw[Array.getElem?_eq_none h]at hb
 cases hb
theorem v6_ {w:World} {a sz n:Nat} {v:Value} {xs:List Value} (h:w.ownsRow a 3 sz v n xs) {g:Nat} (c:v.ownBlock=some g):fm_ w g:=λcs e f hb=>by
 rcases h.2 with⟨rfl,_⟩ | ⟨i,j,m,rfl,_,d,_⟩
 ·cases c
 ·have h1:i=g:=by injection c
  subst h1;rw[d]at hb;injection hb with hb;injection hb with _ h2 _;exact h2.symm
def Je_ (c m n:Nat) (H:Int->Int->List Nat) (a d:Int) (x:Nat) (w:World) (e:Ending) (w':World):Prop:=
 e = .returned (.tuple #[])/\dg_ w' c m (n+1) (dh_ H a d x)/\Turn (λb=>b=m\/(c<=b/\fm_ w b)) w w'
theorem ib_ (p c m n:Nat) (H:Int->Int->List Nat) (a d:Int) (x:Nat) (Ns Es T A:Value) (w:World) (hp:w.heap[p]?=some (.cells #[Ns,Es,.map (some m),T,A] 143 (0,0)))
    (hh:dg_ w c m n H) (ha:VI a) (hd:VI d) (hx:x<=1000000) (hn:n<=1000000) (am:c<=w.heap.size) :
    Calls Tryz.prog 99 #[.pointer (some ⟨p,0,none⟩),.int .i64 a,.int .i64 d,.int .i64 (x:Int)] w (Je_ c m n H a d x w):=by
 obtain⟨D,X,O⟩:=hh;have W:=ki_ ha hd;obtain⟨v,zs,ah,Y,a0,aq,a1⟩:=X.at Gi_ Tryz.underlying140 (E:=94) (by kernel_rfl) (by unfold maxLen;omega) W;have M:=dg_.isMap X;obtain⟨es,clock,a5,F,hs,b5,br,az,bc⟩:=X;have ae:=b_ a5;have b2:=b_ hp;obtain⟨z,V⟩:=a_ w.heap.size;obtain⟨w2,a4⟩:=a_ (((w.alloc (.cells #[.int .i64 a,.int .i64 d] 165)).alloc (.cells #[.int .i64 (x:Int)] 3)).drew);have q:=q_ (show Below w.heap.size w w2 from by rw[<-a4.o];exact (((Below.refl _ _).alloc (Nat.le_refl _) _).alloc (by simp) _).drew);have a8:=q_ (show w2.heap.size=z+2 from by rw[<-a4.o,<-V.o];show ((w.alloc _).alloc _).heap.size=_;simp);have bd:=q_ (show w2.heap[z+1]?=some (.cells #[.int .i64 (x:Int)] 3 (0,0)) from by rw[<-a4.o,<-V.o];have h1:=heap_alloc_new (w.alloc (.cells #[.int .i64 a,.int .i64 d] 165)) (.cells #[.int .i64 (x:Int)] 3);rw[show (w.alloc (.cells #[.int .i64 a,.int .i64 d] 165)).heap.size=w.heap.size+1 by simp]at h1;exact h1);have U:w2.heap[m]?=some (.map es clock):=(q.o.block m ae).trans a5;obtain⟨v0,st,aa,r,bh,ar,ap⟩:=B9_ (b:=m) (t:=140) Gi_ Tryz.underlying140 (z:=.slice none 0 0) (λu=>by kernel_rfl) F W w2 U;have b6:v0=v:=by have h1:=ar w a5;rw[ah]at h1;injection h1 with h1;exact h1.symm
 subst b6;obtain⟨w3,ag⟩:=a_ (setBlock w2 m (.map aa r));rw[ag.o,<-a4.o]at bh;have j:=q_ (show Turn (λb=>b=m) w2 w3 from by rw[<-ag.o];exact⟨rfl,rfl,rfl,by simp[setBlock],λi _ hi=>heap_setBlock_other U _ hi⟩);have bb:=q_ (show w3.heap[m]?=some (.map aa r) from by rw[<-ag.o];exact heap_setBlock_same U _);have f:∀g,v0.ownBlock=some g->c<=g/\g<w.heap.size:=λg L=>a0.1.lt g L;have ao:=q_ f;have a9:=q_ (j.o.owns ((Turn.of_below q.o).owns a0.1 (λg L h=>by have:=(f g L).2;omega)) (λg L h=>by have:=(f g L).1;omega));obtain⟨ln,ab⟩:=a_ zs.length;rw[ab.o]at a9;have bp:ln<=1000000:=by rw[<-ab.o];omega
 have aj:=q_ (World.news_of_block (w:=w3) (cs:=#[.int .i64 (x:Int)]) ((j.o.block (z+1) (by rw[a8.o];omega) (by have:=V.o;omega)).trans bd.o));obtain⟨S3,C⟩:=a_ w3.heap.size;have bn:z+2<=S3:=by have:=j.o.size;have:=a8.o;have:=C.o;omega
 have ba:=q_ ap;have bi:=q_ a1;have a6:=q_ a0;have b8:=q_ (And.intro O (And.intro Y M));have b7:=q_ aq;have bo:c<=z:=by rw[<-V.o];exact am
 have bm:m<z:=by rw[<-V.o];exact ae
 have b1:=q_ U;have au:=q_ (And.intro ha hd);have c2:((w.alloc (.cells #[.int .i64 a,.int .i64 d] 165)).drew).cell? ⟨p,2,none⟩=some (.map (some m)):=by rw[show (w.alloc (.cells #[.int .i64 a,.int .i64 d] 165)).drew.cell? ⟨p,2,none⟩=(w.alloc (.cells #[.int .i64 a,.int .i64 d] 165)).cell? ⟨p,2,none⟩ from rfl,World.cell?_alloc_lt w _ _ b2];exact cell_of_heap hp 2
 have bt:w.cell? ⟨p,2,none⟩=some (.map (some m)):=cell_of_heap hp 2;clear ar ap a1 O a0 Y F hs b5 az bc a5 U f ah W hp aq M ha hd;obtain⟨i0,bg,b3,ay,aw⟩:=info_parts Hp_;go_enter Tryz.func99,Tryz.ntmps99
 go_upto_region 1 with fail;go_region_law (refine step_append_lies _ rfl _ _ 94 rfl c 3 i0 (.int .i64 0) 1 8 Tryz.underlying94 bg b3 ay aw rfl (by decide) v0 ln (zs.map (Value.int .i64)) rfl (by exact a9.o) ⟨w.heap.size+1,0,none⟩ 1 1 [.int .i64 (x:Int)] rfl rfl (by rw[V.o];exact aj.o) (yv_ _ _) (by omega) (by unfold maxLen;omega) (by omega) (by have:=C.o;omega) S3 (by exact C.o) (λg cp B ho L hl _=>?_);obtain⟨av,N,af,ac⟩:=ba.o (.slice (some ⟨g,0,none⟩) (ln+1) cp);have J:=q_ (show B.heap[m]?=some (.map aa r) from (L.block m (by have:=C.o;omega) (λe=>by have:=(ao.o m e.symm).1;omega)).trans bb.o);have bs:(Instr.entryStore 140 (.map (some m)) (.int .i64 (st:Int)) (.slice (some ⟨g,0,none⟩) (ln+1) cp)).run Tryz.prog B = .ok () (setBlock B m (.map av N)):=af B J.o;have bk:=q_ ac;have bf:=q_ ho;have I:=q_ L;have b4:=q_ hl;clear af ac ho L hl)
 all_goals (
  go_end0;have bq:=V.o;have bl:S3<=B.heap.size:=by rw[<-C.o];exact I.o.size
  have ai:w.grownBy (setBlock B m (.map es clock)) v0.ownBlock:=by
   refine⟨I.o.os.trans (j.o.os.trans q.o.os),I.o.tape.trans (j.o.tape.trans q.o.tape),I.o.output.trans (j.o.output.trans q.o.output),by show w.heap.size<=(setBlock B m _).heap.size;simp[setBlock];omega,λi hi b9=>?_⟩;by_cases a7:i=m
   ·subst a7;rw[heap_setBlock_same J.o];exact (b1.o.symm.trans (q.o.block i hi))
   ·rw[heap_setBlock_other J.o _ a7,I.o.block i (by rw[C.o];omega) b9,j.o.block i (by rw[a8.o];omega) a7];exact q.o.block i hi
  have a3:(setBlock B m (.map es clock)).ownsInts c 3 .i64 (.slice (some ⟨g,0,none⟩) (ln+1) cp) (zs++[(x:Int)]):=by
   refine⟨?_,λy hy=>?_⟩
   ·have h1:=bf.o;rw[<-ab.o]at h1 ⊢;rw[List.length_append,List.map_append];refine Turn.owns (S:=λb=>b=m) (w:=B) ⟨rfl,rfl,rfl,by simp[setBlock],λi _ hi=>heap_setBlock_other J.o _ hi⟩ h1 λk hk h=>?_;have:=(h1.lt k hk).1;omega
   ·rcases List.mem_append.1 hy with hy | hy
    ·exact a6.o.2 y hy
    ·simp at hy;subst hy;simp[Lit.wf,IntKind.min,IntKind.max,IntKind.signed,IntKind.bits];omega
  obtain⟨w5,ak,b0,_⟩:=bi.o _ _ _ ai a3 (by rw[List.length_append];simp;have:=b7.o;omega) (by
   rcases b4.o with e | e
   ·exact .inl e.symm
   ·exact .inr ⟨g,rfl,by rw[e];omega⟩)
  have bj:w5=setBlock B m (.map av N):=by have h1:=bk.o (setBlock B m (.map es clock)) (heap_setBlock_same J.o _);rw[ak]at h1;injection h1 with _ h1;rw[h1,qj_]
  subst bj;obtain⟨O,Y,M⟩:=b8.o;refine⟨rfl,⟨_,b0,λa' d' Z a2=>?_⟩,?_⟩
  ·unfold dh_;by_cases hc:a'=a/\d'=d
   ·obtain⟨rfl,rfl⟩:=hc;rw[if_pos ⟨rfl,rfl⟩,atKey_put_same M (Gi_.key (ki_ Z a2)),lz_ a3];have h1:=O a' d' Z a2;rw[Y,lz_ a6.o]at h1;unfold yf_ at h1 ⊢;unfold Go.ChangeShapes.lits at h1 ⊢;rw[List.map_append,List.map_append,List.map_append,h1];rfl
   ·rw[if_neg hc,atKey_put_other (λh=>hc (Go_ Z a2 au.o.1 au.o.2 h))];exact O a' d' Z a2
  ·exact (((Turn.of_below q.o).mono (S':=λb=>b=m\/(c<=b/\fm_ w b)) (λi _ h=>.inr ⟨by omega,v5_ h⟩)).andThen j.o (λi _ h=>.inl h)).trans
     (((Turn.of_grown I.o).mono (S':=λb=>b=m\/(c<=b/\fm_ w b)) (λi _ h=>.inr ⟨(ao.o i h.symm).1,v6_ a6.o.1 h.symm⟩)).trans ⟨rfl,rfl,rfl,by simp[setBlock],λi _ hi=>heap_setBlock_other J.o _ (λe=>hi (.inl e))⟩))
end
end Go.Proofs.YtefhfadjajcmkaaGreatDoor
