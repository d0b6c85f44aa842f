/- The map of hops: 'm[k] = append(m[k], x)' at keys that are structs. -/
import Derived.Test.YtefhfadjajcmkaaGreatDoorHH
import Derived.Test.YtefhfadjajcmkaaGreatDoorGZ
import Derived.Lib.Bytealg
import Derived.Shelf.Sort.Plain
import Derived.Shelf.GgSortFunc.Compose
import Derived.Sort.KeysCollected
import Derived.Maps.OwnRows
import Derived.WideKeyEntry
import Derived.DeepKeys4
set_option linter.unusedVariables false
set_option linter.unusedSimpArgs false
set_option maxRecDepth 100000
set_option maxHeartbeats 64000000
namespace Go.Proofs.YtefhfadjajcmkaaGreatDoor
open Go.Lib (cell_of_heap)
section
open Go Go.RowKit
section
variable {α : Type} {R:bi_ α} {w:World} {F:Nat->Prop} {l:List α} {ad:Addr} {n sz:Nat}
theorem SRd.fn (h:SRd sz R w F l (some ad) n):∃cs:Nat->Array Value,∀i x,l[i]?=some x->F ad.block/\(cs i).size=sz/\(∀j,j<sz->w.cell? (ad.add (i*sz+j))=(cs i)[j]?)/\R w F x (cs i):=by
 classical
 have a:∀i,∃c:Array Value,∀x,l[i]?=some x->F ad.block/\c.size=sz/\(∀j,j<sz->w.cell? (ad.add (i*sz+j))=c[j]?)/\R w F x c:=λi=>by
  cases d:l[i]? with
  | none=>exact⟨#[],λx h=>by cases h⟩
  | some x=>
   obtain⟨p,c,e,m,h1,g,o⟩:=h.at_ d;injection e with e;subst e;exact⟨c,λy f=>by injection f with f;subst f;exact⟨m,h1,g,o⟩⟩
 exact⟨λi=>(a i).choose,λi x d=>(a i).choose_spec x d⟩
theorem kb_ {cs:Nat->Array Value} (c:∀i,i<n->(cs i).size=sz) (o:∀i,i<n->∀j,j<sz->w.cell? (ad.add (i*sz+j))=(cs i)[j]?) (g:0<sz):∀j u,(I_ cs n)[j]?=some u->w.cell? (ad.add j)=some u:=by
 intro j u d;have p:=al_ c;have m:j<n*sz:=by rw[<-p];exact (List.getElem?_eq_some_iff.1 d).1
 have hi:j / sz<n:=Nat.div_lt_of_lt_mul (by rw[Nat.mul_comm];exact m);have h:j % sz<sz:=Nat.mod_lt _ g;have a:j / sz*sz+j % sz=j:=by rw[Nat.mul_comm];exact Nat.div_add_mod j sz
 have h1:=az_ c hi h;rw[a]at h1;have f:=o _ hi _ h;rw[a]at f;rw[f,<-h1,d]
theorem pj_ {cs:Nat->Array Value} (h1:∀i,i<n->∀u∈(cs i).toList,u.oneCell'=true):∀u∈I_ cs n,u.oneCell'=true:=by intro u a;unfold I_ at a;obtain⟨i,hi,a⟩:=List.mem_flatMap.1 a;exact h1 i (List.mem_range.1 hi) u a
end
def tk_ {α : Type} (E sz:Nat) (R:bi_ α) (F:Nat->Prop) (l:List α) (w:World) (e:Ending) (w':World):Prop:=
 ∃s,e = .returned s/\Below w.heap.size w w'/\x_ E sz R w' (λb=>F b\/(w.heap.size<=b/\b<w'.heap.size)) l s/\(∀g,s.ownBlock=some g->w.heap.size<=g)
def VaR:bi_ h_:=λw F x c=>VRd w F x (.agg c)
theorem VaR.good:VaR.Good:=⟨λh c=>h.keep c,λh a=>h.mono a⟩
theorem VaR.one {w:World} {F:Nat->Prop} {x:h_} {c:Array Value} (h:VaR w F x c):∀u∈c.toList,u.oneCell'=true:=by obtain⟨A,d,a,_⟩:=VRd.inv h;injection a with a;subst a;exact yx_ x A _ d
theorem TxR.one {w:World} {F:Nat->Prop} {x:ByteArray} {c:Array Value} (h:TxR w F x c):∀u∈c.toList,u.oneCell'=true:=by have h:c=#[.string x]:=h;subst h;exact sd_ x
theorem x7_ (l:List ByteArray) (F:Nat->Prop) (A:Option Addr) (n D:Nat) (hn:n<=10000000) (w:World) (z:∀g,F g->g<w.heap.size) (v:SRd 1 TxR w F l A n) :
    Calls Tryz.prog 152 #[.slice A n D] w (tk_ 9 1 TxR F l w):=by
 have u:=q_ v.1;have S:=q_ z;have a0:∀(w:World) (a:Option Addr) (n c J M:Nat),(binOp .eql 67 (.slice a n c) (.slice none J M)).run Tryz.prog w = .ok (.bool a.isNone) w:=λw a n c J M=>Lib.run_eql_slice_nil w _ _ a n c J M Tryz.underlying67
 cases A with
 | none=>
  have h0:l=[]:=by
   rcases Nat.eq_zero_or_pos n with h | h
   ·exact List.eq_nil_of_length_eq_zero (by rw[<-u.o,h])
   ·obtain⟨ad,e,_⟩:=v.2 h
    cases e
  have H0:=q_ h0;clear v z h0;go_enter Tryz.func152,Tryz.ntmps152
  go_wp2_with fail;go_ret;rw[H0.o];exact⟨.slice none 0 0,rfl,Below.refl _ _,x_.nil _ _ _ _ _,λg m=>by cases m⟩
 | some ad=>
  obtain⟨cs,q⟩:=v.fn;have d:∀i,i<n->∃x,l[i]?=some x:=λi hi=>⟨l[i]'(by rw[<-u.o];exact hi),List.getElem?_eq_getElem _⟩;have L:=q_ (λi (hi:i<n)=>by obtain⟨x,f⟩:=d i hi;exact (show (cs i).size=1 from (q i x f).2.1));have h1:=q_ (pj_ (n:=n) (cs:=cs) λi hi=>by obtain⟨x,f⟩:=d i hi;exact TxR.one (q i x f).2.2.2)
  have C:=q_ (λ(o:Obj)=>kb_ (w:=w.alloc o) (ad:=ad) L.o (λi hi j X=>by
   obtain⟨x,f⟩:=d i hi;obtain⟨g1,_,W,_⟩:=q i x f;rw[World.cell?_alloc_lt w o _ (by rw[block_of_add];exact z _ g1)];exact W j X) (by decide))
  have HR:=q_ (λi x f=>(q i x f).2.2.2);clear v z q d;obtain⟨Y,hi,N,V,O⟩:=info_parts hg_;go_enter Tryz.func152,Tryz.ntmps152
  go_wp2_with (at_builtin;refine wpList_append_own _ rfl _ _ 67 rfl w.heap.size 9 Y (.string ⟨#[]⟩) 1 16 Tryz.underlying67 hi N V O rfl (by decide) _ _ _ rfl (World.ownsRow_made w #[] 0 (Nat.le_refl _) (Nat.zero_le _) rfl) ad n D (I_ cs n) rfl (al_ L.o) (C.o _) h1.o (by unfold maxLen;omega) (by omega) (by simp) ?_)
  intro U w1 y r I;have T:=q_ (((Below.refl _ w).alloc (Nat.le_refl _) (.cells #[] 9)).grown r (by simp) (by intro k hk;simp[Value.ownBlock]at hk;omega));have B:=q_ (show w1.ownsRow w.heap.size 9 1 U n (I_ cs n) from by simpa using y);clear y r I;go_wp2_with fail;go_ret;refine⟨U,rfl,T.o,⟨cs,by rw[<-u.o];exact n4_ B.o (Nat.zero_le _),λi hi=>L.o i (by rw[u.o];exact hi),λg m=>.inr (B.o.lt g m),λi x f=>?_⟩,λg m=>(B.o.lt g m).1⟩;refine TxR.good.mono (TxR.good.keep (HR.o i x f) λp Z=>T.o.cell (S.o _ Z)) λg m=>⟨.inl m,λe=>?_⟩;have h1:=(B.o.lt g e).1;have h2:=S.o g m;omega
theorem x8_ (l:List h_) (F:Nat->Prop) (A:Option Addr) (n D:Nat) (hn:n<=10000000) (w:World) (z:∀g,F g->g<w.heap.size) (v:SRd 6 VaR w F l A n) :
    Calls Tryz.prog 278 #[.slice A n D] w (tk_ 39 6 VaR F l w):=by
 have u:=q_ v.1;have S:=q_ z;have a0:∀(w:World) (a:Option Addr) (n c J M:Nat),(binOp .eql 37 (.slice a n c) (.slice none J M)).run Tryz.prog w = .ok (.bool a.isNone) w:=λw a n c J M=>Lib.run_eql_slice_nil w _ _ a n c J M Tryz.underlying37
 cases A with
 | none=>
  have h0:l=[]:=by
   rcases Nat.eq_zero_or_pos n with h | h
   ·exact List.eq_nil_of_length_eq_zero (by rw[<-u.o,h])
   ·obtain⟨ad,e,_⟩:=v.2 h
    cases e
  have H0:=q_ h0;clear v z h0;go_enter Tryz.func278,Tryz.ntmps278
  go_wp2_with fail;go_ret;rw[H0.o];exact⟨.slice none 0 0,rfl,Below.refl _ _,x_.nil _ _ _ _ _,λg m=>by cases m⟩
 | some ad=>
  obtain⟨cs,q⟩:=v.fn;have d:∀i,i<n->∃x,l[i]?=some x:=λi hi=>⟨l[i]'(by rw[<-u.o];exact hi),List.getElem?_eq_getElem _⟩;have L:=q_ (λi (hi:i<n)=>by obtain⟨x,f⟩:=d i hi;exact (show (cs i).size=6 from (q i x f).2.1));have h1:=q_ (pj_ (n:=n) (cs:=cs) λi hi=>by obtain⟨x,f⟩:=d i hi;exact VaR.one (q i x f).2.2.2)
  have C:=q_ (λ(o:Obj)=>kb_ (w:=w.alloc o) (ad:=ad) L.o (λi hi j X=>by
   obtain⟨x,f⟩:=d i hi;obtain⟨g1,_,W,_⟩:=q i x f;rw[World.cell?_alloc_lt w o _ (by rw[block_of_add];exact z _ g1)];exact W j X) (by decide))
  have HR:=q_ (λi x f=>(q i x f).2.2.2);clear v z q d;obtain⟨Y,hi,N,V,O⟩:=info_parts yw_;go_enter Tryz.func278,Tryz.ntmps278
  go_wp2_with (at_builtin;refine wpList_append_own _ rfl _ _ 37 rfl w.heap.size 39 Y (.agg #[.int .i64 0,.bool false,.int .i64 0,.string ⟨#[]⟩,.string ⟨#[]⟩,.slice none 0 0]) 6 80 Tryz.underlying37 hi N V O rfl (by decide) _ _ _ rfl (World.ownsRow_made w #[] 0 (Nat.le_refl _) (Nat.zero_le _) rfl) ad n D (I_ cs n) rfl (al_ L.o) (C.o _) h1.o (by unfold maxLen;omega) (by omega) (by simp) ?_)
  intro U w1 y r I;have T:=q_ (((Below.refl _ w).alloc (Nat.le_refl _) (.cells #[] 39)).grown r (by simp) (by intro k hk;simp[Value.ownBlock]at hk;omega));have B:=q_ (show w1.ownsRow w.heap.size 39 6 U n (I_ cs n) from by simpa using y);clear y r I;go_wp2_with fail;go_ret;refine⟨U,rfl,T.o,⟨cs,by rw[<-u.o];exact n4_ B.o (Nat.zero_le _),λi hi=>L.o i (by rw[u.o];exact hi),λg m=>.inr (B.o.lt g m),λi x f=>?_⟩,λg m=>(B.o.lt g m).1⟩;refine VaR.good.mono (VaR.good.keep (HR.o i x f) λp Z=>T.o.cell (S.o _ Z)) λg m=>⟨.inl m,λe=>?_⟩;have h1:=(B.o.lt g e).1;have h2:=S.o g m;omega
def LFl (w:World) (F:Nat->Prop) (l:List h_) (s:Value):Prop:=SlR 6 VaR w F l s/\∀b,F b->b<w.heap.size
theorem LFl.form {w:World} {F:Nat->Prop} {l:List h_} {s:Value} (h:LFl w F l s):∃A a,s = .slice A l.length a:=by obtain⟨⟨A,a,e,_⟩,_⟩:=h;exact⟨A,a,e⟩
theorem LFl.turn {w w':World} {F:Nat->Prop} {l:List h_} {s:Value} (h:LFl w F l s) {S:Nat->Prop} (a:Turn S w w') (c:∀b,F b->¬S b):LFl w' F l s:=
 ⟨h.1.turn VaR.good a h.2 c,λb hb=>Nat.lt_of_lt_of_le (h.2 b hb) a.size⟩
def Ju_ (l:List h_) (w:World) (e:Ending) (w':World):Prop:=∃s,e = .returned s/\Below w.heap.size w w'/\LFl w' (λb=>w.heap.size<=b/\b<w'.heap.size) l s
def Kv_ (v:h_) (w:World) (e:Ending) (w':World):Prop:=∃s,e = .returned (.agg (c_ v s))/\Below w.heap.size w w'/\SlR 6 VaR w' (λb=>w.heap.size<=b/\b<w'.heap.size) v.list s
theorem VaR.flat {w:World} {F F':Nat->Prop} {x:h_} {c:Array Value} (h:VaR w F x c) (f:x.list=[]):VaR w F' x c:=by obtain⟨A,g,a,d,i⟩:=VRd.inv h;injection a with a;subst a;exact VRd.of_list d (by rw[f];exact⟨rfl,λh=>absurd h (by simp)⟩)
theorem x9_ {l:List h_} {F:Nat->Prop} {w w':World} {e:Ending} (j:∀x,x∈l->x.list=[]) (h:tk_ 39 6 VaR F l w e w'):Ju_ l w e w':=by obtain⟨s,f,hb,a,o⟩:=h;refine⟨s,f,hb,?_,λb hb=>hb.2⟩;obtain⟨cs,h1,m,r,q⟩:=a;have p:x_ 39 6 VaR w' (λb=>w.heap.size<=b/\b<w'.heap.size) l s:=⟨cs,h1,m,λg d=>⟨o g d,(h1.lt g d).2⟩,λi x c=>(q i x c).flat (j x (List.mem_of_getElem? c))⟩;exact p.rd VaR.good
theorem vv_ (v:h_) {F:Nat->Prop} (A:Option Addr) (f:Nat) (w:World) (Y:∀g,F g->g<w.heap.size) (X:LRd w F v.list A v.list.length)
    (C:∀w',LRd w' F v.list A v.list.length->(∀g,F g->g<w'.heap.size)->Calls Tryz.prog 278 #[.slice A v.list.length f] w' (Ju_ v.list w')) :
    Calls Tryz.prog 222 #[.agg (c_ v (.slice A v.list.length f))] w (Kv_ v w):=by
 obtain⟨k,t,n,s,x,l⟩:=v;unfold c_;simp only[h_.kind,h_.truth,h_.num,h_.text,h_.extra,h_.list]at X C ⊢;have S:=q_ (D_ w (.cells #[.int .i64 k,.bool t,.int .i64 n,.string s,.string x,.slice A l.length f] 39) (.cells #[.int .i64 0,.bool false,.int .i64 0,.string ⟨#[]⟩,.string ⟨#[]⟩,.slice none 0 0] 39));have I:((w.alloc (.cells #[.int .i64 k,.bool t,.int .i64 n,.string s,.string x,.slice A l.length f] 39)).alloc (.cells #[.int .i64 0,.bool false,.int .i64 0,.string ⟨#[]⟩,.string ⟨#[]⟩,.slice none 0 0] 39)).heap.size=w.heap.size+2:=by simp
 have y:((w.alloc (.cells #[.int .i64 k,.bool t,.int .i64 n,.string s,.string x,.slice A l.length f] 39)).alloc (.cells #[.int .i64 0,.bool false,.int .i64 0,.string ⟨#[]⟩,.string ⟨#[]⟩,.slice none 0 0] 39)).heap[w.heap.size]?=some (.cells #[.int .i64 k,.bool t,.int .i64 n,.string s,.string x,.slice A l.length f] 39 (0,0)):=by rw[Below.heap_alloc _ _ _ (by simp)];exact heap_alloc_new w _
 have D:((w.alloc (.cells #[.int .i64 k,.bool t,.int .i64 n,.string s,.string x,.slice A l.length f] 39)).alloc (.cells #[.int .i64 0,.bool false,.int .i64 0,.string ⟨#[]⟩,.string ⟨#[]⟩,.slice none 0 0] 39)).heap[w.heap.size+1]?=some (.cells #[.int .i64 0,.bool false,.int .i64 0,.string ⟨#[]⟩,.string ⟨#[]⟩,.slice none 0 0] 39 (0,0)):=by have:=heap_alloc_new (w.alloc (.cells #[.int .i64 k,.bool t,.int .i64 n,.string s,.string x,.slice A l.length f] 39)) (.cells #[.int .i64 0,.bool false,.int .i64 0,.string ⟨#[]⟩,.string ⟨#[]⟩,.slice none 0 0] 39);simpa using this
 obtain⟨z,T⟩:=a_ w.heap.size;obtain⟨W2,U⟩:=a_ ((w.alloc (.cells #[.int .i64 k,.bool t,.int .i64 n,.string s,.string x,.slice A l.length f] 39)).alloc (.cells #[.int .i64 0,.bool false,.int .i64 0,.string ⟨#[]⟩,.string ⟨#[]⟩,.slice none 0 0] 39));rw[U.o]at S I y D;have HC:=q_ (C W2 (X.under S.o Y) (λg hg=>by have:=Y g hg;have:=S.o.size;omega));rw[T.o]at S I y D;have a5:=q_ y;have a0:=q_ D;have r:=q_ I;have c5:W2.cell? ⟨z,5,none⟩=some (.slice A l.length f):=cell_of_heap y 5;clear X C Y y D I;go_enter Tryz.func222,Tryz.ntmps222
 go_upto_region 1 with fail;rw[U.o,T.o];go_wp2_with fail;refine HC.o.mono ?_;rintro e w5 ⟨s',rfl,B,L⟩;obtain⟨m,d,rfl⟩:=L.form;have a3:=q_ L;have a1:=q_ B;have a6:z+2<=w5.heap.size:=by have:=B.size;have:=r.o;omega
 have u:=q_ ((B.block z (by have:=r.o;omega)).trans a5.o);have W:=q_ ((B.block (z+1) (by have:=r.o;omega)).trans a0.o);have d0:w5.cell? ⟨z,0,none⟩=some (.int .i64 k):=cell_of_heap u.o 0;have d5:w5.cell? ⟨z,5,none⟩=some (.slice A l.length f):=cell_of_heap u.o 5;have f5:w5.frozen? ⟨z,5,none⟩=false:=Lib.frozen_of_heap u.o 5;have j:=heap_setCell_same w5 z 5 _ 39 (.slice m l.length d) u.o;have a:(w5.setCell ⟨z,5,none⟩ (.slice m l.length d)).heap[z+1]?=_:=(Below.heap_setCell w5 ⟨z,5,none⟩ (.slice m l.length d) (z+1) (by simp)).trans W.o;have M:=(Turn.refl (λb=>b=z\/b=z+1) w5).setCell (p:=⟨z,5,none⟩) (.inr (.inl rfl)) (.slice m l.length d);obtain⟨c,V⟩:=a_ (w5.setCell ⟨z,5,none⟩ (.slice m l.length d));rw[V.o]at j a M;have g0:c.cell? ⟨z,0,none⟩=some (.int .i64 k):=cell_of_heap j 0;have g1:c.cell? ⟨z,1,none⟩=some (.bool t):=cell_of_heap j 1;have g2:c.cell? ⟨z,2,none⟩=some (.int .i64 n):=cell_of_heap j 2;have g3:c.cell? ⟨z,3,none⟩=some (.string s):=cell_of_heap j 3;have g4:c.cell? ⟨z,4,none⟩=some (.string x):=cell_of_heap j 4;have g5:c.cell? ⟨z,5,none⟩=some (.slice m l.length d):=cell_of_heap j 5;have r0:c.cell? ⟨z+1,0,none⟩=some (.int .i64 0):=cell_of_heap a 0;have y0:c.frozen? ⟨z+1,0,none⟩=false:=Lib.frozen_of_heap a 0;have r1:c.cell? ⟨z+1,1,none⟩=some (.bool false):=cell_of_heap a 1;have y1:c.frozen? ⟨z+1,1,none⟩=false:=Lib.frozen_of_heap a 1;have r2:c.cell? ⟨z+1,2,none⟩=some (.int .i64 0):=cell_of_heap a 2;have y2:c.frozen? ⟨z+1,2,none⟩=false:=Lib.frozen_of_heap a 2;have r3:c.cell? ⟨z+1,3,none⟩=some (.string ⟨#[]⟩):=cell_of_heap a 3;have y3:c.frozen? ⟨z+1,3,none⟩=false:=Lib.frozen_of_heap a 3;have r4:c.cell? ⟨z+1,4,none⟩=some (.string ⟨#[]⟩):=cell_of_heap a 4;have y4:c.frozen? ⟨z+1,4,none⟩=false:=Lib.frozen_of_heap a 4;have r5:c.cell? ⟨z+1,5,none⟩=some (.slice none 0 0):=cell_of_heap a 5;have y5:c.frozen? ⟨z+1,5,none⟩=false:=Lib.frozen_of_heap a 5;have a7:=q_ j;have Z:=q_ a;have a2:=q_ M;clear B L j a M c5;go_upto_region 2 with fail;rw[V.o];go_wp2_with fail;have q:((((((c.setCell ⟨z+1,0,none⟩ (.int .i64 k)).setCell ⟨z+1,1,none⟩ (.bool t)).setCell ⟨z+1,2,none⟩ (.int .i64 n)).setCell ⟨z+1,3,none⟩ (.string s)).setCell ⟨z+1,4,none⟩ (.string x)).setCell ⟨z+1,5,none⟩ (.slice m l.length d)).heap[z+1]?=some (.cells #[.int .i64 k,.bool t,.int .i64 n,.string s,.string x,.slice m l.length d] 39 (0,0)):=(heap_setCell_same _ (z+1) 5 _ 39 _ (heap_setCell_same _ (z+1) 4 _ 39 _ (heap_setCell_same _ (z+1) 3 _ 39 _ (heap_setCell_same _ (z+1) 2 _ 39 _ (heap_setCell_same _ (z+1) 1 _ 39 _ (heap_setCell_same _ (z+1) 0 _ 39 _ Z.o))))));have N:Turn (λb=>b=z\/b=z+1) w5 ((((((c.setCell ⟨z+1,0,none⟩ (.int .i64 k)).setCell ⟨z+1,1,none⟩ (.bool t)).setCell ⟨z+1,2,none⟩ (.int .i64 n)).setCell ⟨z+1,3,none⟩ (.string s)).setCell ⟨z+1,4,none⟩ (.string x)).setCell ⟨z+1,5,none⟩ (.slice m l.length d)):=((((((a2.o.setCell (p:=⟨z+1,0,none⟩) (.inr (.inr rfl)) _).setCell (p:=⟨z+1,1,none⟩) (.inr (.inr rfl)) _).setCell (p:=⟨z+1,2,none⟩) (.inr (.inr rfl)) _).setCell (p:=⟨z+1,3,none⟩) (.inr (.inr rfl)) _).setCell (p:=⟨z+1,4,none⟩) (.inr (.inr rfl)) _).setCell (p:=⟨z+1,5,none⟩) (.inr (.inr rfl)) _);obtain⟨J,a4⟩:=a_ ((((((c.setCell ⟨z+1,0,none⟩ (.int .i64 k)).setCell ⟨z+1,1,none⟩ (.bool t)).setCell ⟨z+1,2,none⟩ (.int .i64 n)).setCell ⟨z+1,3,none⟩ (.string s)).setCell ⟨z+1,4,none⟩ (.string x)).setCell ⟨z+1,5,none⟩ (.slice m l.length d));rw[a4.o]at q N ⊢;have q0:J.cell? ⟨z+1,0,none⟩=some (.int .i64 k):=cell_of_heap q 0;have q1:J.cell? ⟨z+1,1,none⟩=some (.bool t):=cell_of_heap q 1;have q2:J.cell? ⟨z+1,2,none⟩=some (.int .i64 n):=cell_of_heap q 2;have q3:J.cell? ⟨z+1,3,none⟩=some (.string s):=cell_of_heap q 3;have q4:J.cell? ⟨z+1,4,none⟩=some (.string x):=cell_of_heap q 4;have q5:J.cell? ⟨z+1,5,none⟩=some (.slice m l.length d):=cell_of_heap q 5;have O:=q_ N;clear N q r0 r1 r2 r3 r4 r5 y0 y1 y2 y3 y4 y5 g0 g1 g2 g3 g4 g5 d0 d5 f5;go_wp2_with fail;refine bodyPost_ret (v:=.agg #[.int .i64 k,.bool t,.int .i64 n,.string s,.string x,.slice m l.length d]) (by simp[results,Tryz.results222,go_sem,q0,q1,q2,q3,q4,q5]) rfl ⟨.slice m l.length d,rfl,?_,?_⟩
 ·rw[T.o];exact (S.o.trans (a1.o.mono (by have:=r.o;omega))).trans (O.o.below (λi _ h=>by omega) (by omega))
 ·have h1:=a3.o.turn O.o (λb hb h=>by have:=r.o;omega);refine h1.1.mono VaR.good λb hb=>⟨?_,?_⟩
  ·have:=r.o;have:=T.o;omega
  ·have:=O.o.size;omega
def F1_ (v:h_) (w:World) (e:Ending) (w':World):Prop:=∃B cb,e = .returned (.agg (c_ v (.slice B v.list.length cb)))/\Below w.heap.size w w'/\VRd w' (λb=>w.heap.size<=b/\b<w'.heap.size) v (.agg (c_ v (.slice B v.list.length cb)))
theorem ya_ (v:h_) (c:∀x,x∈v.list->x.list=[]) (p:U_ v<=2000000) (F:Nat->Prop) (u:Value) (w:World) (o:∀g,F g->g<w.heap.size) (f:VRd w F v u) :
    Calls Tryz.prog 222 #[u] w (F1_ v w):=by
 obtain⟨A,a,rfl,_,m⟩:=f.inv;have hz:=fj_ v;have q:=dd_ v.list;refine (vv_ v A a w o m (λw' h1 d=>(x8_ v.list F A _ a (by omega) w' d h1).mono λe w2 h=>x9_ c h)).mono ?_;rintro e w' ⟨s,rfl,hb,B,cb,rfl,i,j⟩;exact⟨B,cb,rfl,hb,VRd.of_list i j⟩
section
variable {α : Type} {R:bi_ α} {F G:Nat->Prop} {l:List α} {sz:Nat} {s:Value} {E:Nat}
theorem g9_ {w5 w6:World} {x:α} {c:Array Value} {g4 c4:Nat} {cs:Nat->Array Value} (j:R.Good) (D:∀i,i<l.length->(cs i).size=sz) (M:∀i x,l[i]?=some x->R w5 (λb=>F b/\s.ownBlock≠some b) x (cs i)) (I:R w5 G x c) (L:c.size=sz)
    (q:∀b,G b->s.ownBlock≠some b) (o:∀b,F b->b<w5.heap.size) (m:∀b,G b->b<w5.heap.size)
    (C:w6.ownsRow 0 E sz (.slice (some ⟨g4,0,none⟩) (l.length+1) c4) (l.length+1) (I_ cs l.length++c.toList)) (u:w5.grownBy w6 s.ownBlock) (z:s.ownBlock=some g4\/w5.heap.size<=g4) :
    x_ E sz R w6 (λb=>F b\/G b\/b=g4) (l++[x]) (.slice (some ⟨g4,0,none⟩) (l.length+1) c4):=by
 have r:(l++[x]).length=l.length+1:=by simp
 have v:∀i,i<l.length->(λi=>if i<l.length then cs i else c) i=cs i:=λi hi=>if_pos hi
 have A:∀b,F b->s.ownBlock≠some b->b≠g4:=λb hb J e=>by
  rcases z with h | h
  ·exact J (by rw[h,e])
  ·have:=o b hb;omega
 have B:∀b,G b->b≠g4:=λb hb e=>by
  rcases z with h | h
  ·exact q b hb (by rw[h,e])
  ·have:=m b hb;omega
 refine⟨λi=>if i<l.length then cs i else c,?_,λi hi=>?_,λg a=>?_,λi y d=>?_⟩
 ·rw[r,c8_,gd_ v,if_neg (Nat.lt_irrefl _)];exact C
 ·by_cases h:i<l.length
  ·simp only[if_pos h];exact D i h
  ·simp only[if_neg h];exact L
 ·injection a with a;exact .inr (.inr a.symm)
 ·by_cases h:i<l.length
  ·simp only[if_pos h];rw[List.getElem?_append_left h]at d;refine j.mono (j.keep (M i y d) (w':=w6) λp f=>(Turn.of_grown u).cell (o _ f.1) λe=>f.2 e.symm) λb hb=>⟨.inl hb.1,λe=>?_⟩;injection e with e;exact A b hb.1 hb.2 e.symm
  ·simp only[if_neg h];have hi:i=l.length:=by have:=b8_ d;omega
   subst hi;simp at d;subst d;refine j.mono (j.keep I (w':=w6) λp f=>(Turn.of_grown u).cell (m _ f) λe=>q _ f e.symm) λb hb=>⟨.inr (.inl hb),λe=>?_⟩;injection e with e;exact B b hb e.symm
end
theorem lb_:(Tryz.prog.info? 69).map (λi=>(i.zero,i.size,i.bytes))=some (some (.agg #[.string ⟨#[]⟩,.int .i64 0,.bool false,.int .i64 0,.string ⟨#[]⟩,.string ⟨#[]⟩,.slice none 0 0]),7,96):=by kernel_rfl
def h8_ (a b:ByteArray):Int:=Lib.compareBytes a.data.toList b.data.toList
structure ItP where
 p:C_
 A:Option Addr
 cap:Nat
instance:Inhabited ItP:=⟨⟨⟨⟨#[]⟩,.mk 0 false 0 ⟨#[]⟩ ⟨#[]⟩ []⟩,none,0⟩⟩
def Bx_ (x:ItP):List Value:=[.string x.p.key,.int .i64 x.p.v.kind,.bool x.p.v.truth,.int .i64 x.p.v.num,.string x.p.v.text,.string x.p.v.extra,.slice x.A x.p.v.list.length x.cap]
theorem vw_ (x y:ItP) (W:World):Calls Tryz.prog 224 #[.agg (Bx_ x).toArray,.agg (Bx_ y).toArray] W λe w'=>e = .returned (.int .i64 (h8_ x.p.key y.p.key))/\∃q f,w'=Go.Sort.grow (W.drewN q) f:=by
 have d:=λc=>(Any.strings_Compare Tryz.lays106 x.p.key y.p.key c:Calls Tryz.prog 225 _ c _);have a:=q_ (λc=>(d c).mono λe w' h=>(show e = .returned (.int .i64 (h8_ x.p.key y.p.key))/\w'=c from h));clear d;generalize h8_ x.p.key y.p.key=r at a ⊢;unfold Bx_;go_enter Tryz.func224,Tryz.ntmps224
 go_wp2_with fail;refine (a.o _).mono ?_;rintro e w' ⟨rfl,rfl⟩;go_wp2_with fail;go_ret;exact⟨rfl,0,_,by rw[Go.Sort.alloc_eq_grow,Go.Sort.alloc_eq_grow,Go.Sort.grow_grow];rfl⟩
theorem lc_ (a b:ByteArray):(h8_ a b<0)=(a.data.toList<b.data.toList):=by
 unfold h8_;generalize a.data.toList=x;generalize b.data.toList=y;induction x generalizing y with
 | nil=>cases y<;>simp[Lib.compareBytes]
 | cons u r g=>
  cases y with
  | nil=>simp[Lib.compareBytes]
  | cons v q=>
   simp only[Lib.compareBytes];by_cases h1:u<v
   ·simp[h1,List.cons_lt_cons_iff]
   ·by_cases c:v<u
    ·have d:u≠v:=λe=>by subst e;exact h1 c
     simp[h1,c,List.cons_lt_cons_iff,d]
    ·have f:u=v:=UInt8.le_antisymm (UInt8.not_lt.1 c) (UInt8.not_lt.1 h1);subst f;simp[h1,g]
theorem Ma_:Go.Sort.SWO (ltOf λx y:ItP=>h8_ x.p.key y.p.key) where
 irrefl x:=by unfold ltOf;rw[decide_eq_false_iff_not,lc_];exact List.lt_irrefl _
 trans x y z h1 h2:=by unfold ltOf at *;rw [decide_eq_true_iff, lc_] at *;exact List.lt_trans h1 h2
 ntrans x y z h1 h2:=by unfold ltOf at *;rw [decide_eq_false_iff_not, lc_] at *;rw [List.not_lt] at *;exact List.le_trans h2 h1
theorem itP {w:World} {F:Nat->Prop} {x:C_} {c:Array Value} (h:PaR w F x c):∃g,Bx_ g=c.toList/\g.p=x:=by
 obtain⟨s,rfl,i⟩:=h;obtain⟨A,d,f,_,_⟩:=i.inv;injection f with f;obtain rfl:s = .slice A x.v.list.length d:=by have:=congrArg (λa:Array Value=>a[5]?) f;simpa [c_] using this
 exact⟨⟨x,A,d⟩,rfl,rfl⟩
def yb_ (l c:List C_):Prop:=c.Perm l/\c.Pairwise (λa b=>¬h8_ b.key a.key<0)
theorem By_ {w:World} {F:Nat->Prop} {l:List C_} {s:Value} (h:x_ 69 7 PaR w F l s) (d:l.length<=100000000) (m:∀b,F b->b<w.heap.size) :
    Calls Tryz.prog 223 #[s,.func (.func 224) #[] #[]] w λe w'=>e = .returned (.tuple #[])/\∃c:List C_,yb_ l c/\SlR 7 PaR w' F c s/\Turn (λb=>s.ownBlock=some b) w w':=
 (o8_ Tryz.gsortP PaR.good (by decide) Tryz.isAgg69 Tryz.sizeOf69 Bx_ ItP.p (λ_=>rfl) (λx v f=>by simp[Bx_]at f;rcases f with rfl | rfl | rfl | rfl | rfl | rfl | rfl<;>rfl) itP (λa b=>h8_ a.key b.key) Ma_ 224 (enters_of Tryz.func224 (by kernel_rfl) rfl) vw_ h d m).mono λ_ _ ⟨g,c,h1,j,o,i⟩=>⟨g,c,⟨h1,j⟩,o,i⟩
theorem bd_ {B:Nat} {w w':World} (h:Below B w.drew w'):Below B w w':=⟨h.os,h.tape,h.output,h.size,h.block⟩
def vx_ (p:C_):Prop:=∀x,x∈p.v.list->x.list=[]
def In_ (l:List C_) (w:World) (e:Ending) (w':World):Prop:=
 ∃s,e = .returned s/\Below w.heap.size w w'/\∃a:List C_,yb_ l a/\SlR 7 PaR w' (λb=>w.heap.size<=b/\b<w'.heap.size) a s
theorem rk_ (l:List C_) (Y:∀p,p∈l->vs_ p/\vx_ p) (ai:l.length<=2000000) (F:Nat->Prop) (A:Option Addr) (n am:Nat) (w:World) (hF:∀g,F g->g<w.heap.size) (hl:SRd 7 PaR w F l A n) :
    Calls Tryz.prog 154 #[.slice A n am] w (In_ l w):=by
 have HL:=q_ hl;have HF:=q_ hF;have af:=q_ Y;have S:=q_ hl.1;have b4:n<=2000000:=by rw[hl.1];exact ai
 clear hl hF Y;go_enter Tryz.func154,Tryz.ntmps154
 go_wp2_with fail;go_loopw [3,8] (λs3 s8 wr=>∃k:Nat,k<=n/\s8 = .int .i64 (k:Nat)/\Q_ (Below w.heap.size w wr)/\Q_ (x_ 69 7 PaR wr (λb=>w.heap.size<=b/\b<wr.heap.size) (l.take k) s3)) (λ_ s8 _=>n-(intOf s8).toNat)
 case atStart=>exact⟨0,by omega,rfl,q_ (Below.refl _ _),q_ (x_.nil ..)⟩
 case round=>
  obtain⟨k,hk,rfl,hB,hO⟩:=hrel;by_cases ap:k<n
  ·obtain⟨x,hx⟩:∃x,l[k]?=some x:=⟨l[k]'(by rw[<-S.o];exact ap),List.getElem?_eq_getElem _⟩;have HX:=q_ hx;have a6:=q_ (af.o x (List.mem_of_getElem? hx));have a3:(l.take k).length=k:=by rw[List.length_take];have:=S.o;omega
   obtain⟨A3,c3,Z⟩:=hO.o.form;rw[a3]at Z;subst Z;have N:=q_ a3;obtain⟨ad,s,rfl,ay,hv,c0,c1,c2,au,c4,c5,c6⟩:=tj_ (HL.o.under PaR.good hB.o HF.o) hx;obtain⟨B,cb,M,_,_⟩:=hv.inv;injection M with M;obtain rfl:s = .slice B x.v.list.length cb:=by have:=congrArg (λa:Array Value=>a[5]?) M;simpa [c_] using this
   have HV:=q_ hv;clear hx ay hv M a3;obtain⟨r,J⟩:=a_ x.v.list.length;rw[J.o]at c6 HV;obtain⟨z,Hz⟩:=a_ wr.heap.size;obtain⟨w5,T⟩:=a_ (wr.alloc (.cells #[.string x.key,.int .i64 x.v.kind,.bool x.v.truth,.int .i64 x.v.num,.string x.v.text,.string x.v.extra,.slice B r cb] 69));have I:=q_ (show Below wr.heap.size wr w5 from by rw[<-T.o];exact (Below.refl _ _).alloc (Nat.le_refl _) _);have d:=q_ (show w5.heap[z]?=some (.cells #[.string x.key,.int .i64 x.v.kind,.bool x.v.truth,.int .i64 x.v.num,.string x.v.text,.string x.v.extra,.slice B r cb] 69 (0,0)) from by rw[<-T.o,<-Hz.o];exact heap_alloc_new wr _);have a8:=q_ (show w5.heap.size=z+1 from by rw[<-T.o,<-Hz.o];simp);have e1:(0:Int)<=k:=by omega
   have e2:(k:Int)<n:=by omega
   go_upto_region 5 with fail;rw[T.o,Hz.o];have a0:w.heap.size<=wr.heap.size:=hB.o.size;have aa:=q_ (ya_ x.v a6.o.2 a6.o.1.2 F _ w5.drew (λg hg=>Nat.lt_of_lt_of_le (HF.o g hg) (Nat.le_trans a0 I.o.size)) ((HV.o.under I.o (λg hg=>Nat.lt_of_lt_of_le (HF.o g hg) a0)).drewN 1));unfold c_ at aa;have d0:w5.drew.cell? ⟨z,0,none⟩=some (.string x.key):=cell_of_heap d.o 0;have d1:w5.drew.cell? ⟨z,1,none⟩=some (.int .i64 x.v.kind):=cell_of_heap d.o 1;have d2:w5.drew.cell? ⟨z,2,none⟩=some (.bool x.v.truth):=cell_of_heap d.o 2;have d3:w5.drew.cell? ⟨z,3,none⟩=some (.int .i64 x.v.num):=cell_of_heap d.o 3;have d4:w5.drew.cell? ⟨z,4,none⟩=some (.string x.v.text):=cell_of_heap d.o 4;have d5:w5.drew.cell? ⟨z,5,none⟩=some (.string x.v.extra):=cell_of_heap d.o 5;have d6:w5.drew.cell? ⟨z,6,none⟩=some (.slice B r cb):=cell_of_heap d.o 6;obtain⟨cs,q,W,f,C⟩:=(hO.o.turn PaR.good (Turn.of_below I.o) (λb hb=>hb.2) (λb hb h=>by obtain⟨_,h1⟩:=hb;omega));rw[N.o]at q W;have ac:=q_ q;have U:=q_ (And.intro W (And.intro f C));clear c0 c1 c2 au c4 c5 c6 q W f C;obtain⟨i0,av,ag,ae,aj⟩:=info_parts lb_;go_region_law (first | (refine step_append_lies _ rfl _ _ 70 rfl 0 69 i0 (.agg #[.string ⟨#[]⟩,.int .i64 0,.bool false,.int .i64 0,.string ⟨#[]⟩,.string ⟨#[]⟩,.slice none 0 0]) 7 96 Tryz.underlying70 av ag ae aj rfl (by decide) (.slice A3 k c3) k (I_ cs k) rfl (by exact a4.o.alloc _) ⟨w6.heap.size,0,none⟩ 1 1 [.string x.key,.int .i64 x.v.kind,.bool x.v.truth,.int .i64 x.v.num,.string x.v.text,.string x.v.extra,.slice L r m] rfl rfl (World.news_of_block (cs:=#[.string x.key,.int .i64 x.v.kind,.bool x.v.truth,.int .i64 x.v.num,.string x.v.text,.string x.v.extra,.slice L r m]) (by exact NB.o)) ah.o (by omega) (by unfold maxLen;omega) (by omega) (Nat.zero_le _) (w6.heap.size+1) (by exact ar.o) (λg7 c7 w7 D j a7 _=>?_);have aw:=q_ D;have X:=q_ (show w6.grownBy w7 (Value.slice A3 k c3).ownBlock from aa_ (w:=w6) (o:=.cells #[.string x.key,.int .i64 x.v.kind,.bool x.v.truth,.int .i64 x.v.num,.string x.v.text,.string x.v.extra,.slice L r m] 69) ⟨j.os,j.tape,j.output,j.size,j.block⟩);have a5:=q_ (show (Value.slice A3 k c3).ownBlock=some g7\/g7=w6.heap.size+1 from a7);clear D j a7) | (go_simp;go_at_call 222;(with_reducible refine aa.o.mono ?_);rintro e w6 ⟨L,m,rfl,O,a1⟩;rw[J.o]at a1;unfold c_;rw[J.o];have a2:=q_ O;have ak:=q_ a1;have a4:=q_ ((Turn.of_below O).owns ac.o (λg hg h=>by have:=U.o.2.1 g hg;have h2:w5.heap.size<=g:=h;have:=I.o.size;omega));have b2:w6.cell? ⟨z,0,none⟩=some (.string x.key):=cell_of_heap ((O.block z (by show z<w5.heap.size;rw[a8.o];omega)).trans d.o) 0;have ah:=q_ (show ∀u∈([.string x.key,.int .i64 x.v.kind,.bool x.v.truth,.int .i64 x.v.num,.string x.v.text,.string x.v.extra,.slice L r m]:List Value),u.oneCell'=true from λu M=>by simp at M;rcases M with rfl | rfl | rfl | rfl | rfl | rfl | rfl<;>rfl);have NB:=q_ (heap_alloc_new w6 (.cells #[.string x.key,.int .i64 x.v.kind,.bool x.v.truth,.int .i64 x.v.num,.string x.v.text,.string x.v.extra,.slice L r m] 69));have ar:=q_ (show (w6.alloc (.cells #[.string x.key,.int .i64 x.v.kind,.bool x.v.truth,.int .i64 x.v.num,.string x.v.text,.string x.v.extra,.slice L r m] 69)).heap.size=w6.heap.size+1 by simp);clear O a1))
   all_goals (
    have w1:IntKind.i64.wrap ((k:Int)+1)=(k:Int)+1:=IntWalk.i64_in _ (by omega);go_wp2_with fail;go_roundw)
   all_goals first
    | (case measure=>simp[intOf];omega)
    | (case rel=>
        obtain⟨W,f,C⟩:=U.o;have b1:w5.heap.size<=w6.heap.size:=a2.o.size;have b3:w6.heap.size<=w7.heap.size:=X.o.size;have az:=a8.o;have hz:=Hz.o;have D:=aw.o;have j:g7<w7.heap.size:=(D.lt g7 rfl).2
        have ab:=g9_ (w5:=w6) (w6:=w7) (R:=PaR) (E:=69) (sz:=7) (F:=λb=>w.heap.size<=b/\b<wr.heap.size) (G:=λb=>w5.heap.size<=b/\b<w6.heap.size) (l:=l.take k) (x:=x) (s:=.slice A3 k c3) (c:=b3_ x (.slice L x.v.list.length m)) (g4:=g7) (c4:=c7) (cs:=cs) PaR.good
         (λi hi=>W i (by rw[N.o]at hi;exact hi)) (λi y hy=>PaR.good.keep (C i y hy) (λp V=>a2.o.cell (show p.block<w5.heap.size from by have:=V.1.2;omega)))
         ⟨_,rfl,by rw[J.o];exact ak.o⟩ rfl (λb hb e=>by have:=(f b e).2;have:=hb.1;omega) (λb hb=>by have:=hb.2;omega) (λb hb=>hb.2) (by rw[N.o];unfold b3_;rw[J.o];exact D) X.o (by rcases a5.o with e | e;exact .inl e;exact .inr (by omega))
        rw[N.o]at ab;refine⟨k+1,by omega,by go_num,q_ ?_,q_ ?_⟩
        ·exact ((hB.o.trans (I.o.mono (by omega))).trans ((bd_ a2.o).mono (show w.heap.size<=w5.heap.size from by omega))).trans ((Turn.of_grown X.o).below (λb _ hb=>(f b hb.symm).1) (by omega))
        ·rw[f_ HX.o];refine ab.mono PaR.good λb hb=>?_;rcases hb with hb | hb | hb
         ·exact⟨hb.1,by have:=hb.2;omega⟩
         ·exact⟨by have:=hb.1;omega,by have:=hb.2;omega⟩
         ·subst hb;refine⟨?_,j⟩;rcases a5.o with h | h
          ·exact (f b h).1
          ·omega)
  ·have aq:k=n:=by omega
   subst aq;have ao:=q_ (show l.take k=l from List.take_of_length_le (by rw[S.o];exact Nat.le_refl _));obtain⟨A3,c3,Z⟩:=hO.o.form;rw[ao.o]at hO Z;subst Z;have a9:=hO;have HS:=q_ (By_ a9.o (by rw[<-S.o];omega) (λb hb=>hb.2));go_wp2_with fail;refine HS.o.mono ?_;rintro e w6 ⟨rfl,l',V,C,ht⟩;have HR:=q_ (And.intro V (And.intro C ht));clear V C ht;go_wp2_with fail;go_ret;obtain⟨V,C,ht⟩:=HR.o;obtain⟨cs,q,W,f,b0⟩:=a9.o;refine⟨_,rfl,hB.o.trans (ht.below (λi _ hi=>(f i hi).1) hB.o.size),l',V,C.mono PaR.good (λb hb=>⟨hb.1,Nat.lt_of_lt_of_le hb.2 ht.size⟩)⟩
end
section
open Go Go.RowKit Go.Shelf Go.Sort Go.Proofs
theorem tl_ {w:World} {g n:Nat} {d:Array (List UInt8)} {os:Array Obj}:Turn (λb=>b=g) w (grow (putRow encStr (Sort.ahead w n) g 0 d) os):=by refine⟨rfl,rfl,rfl,by simp,λi hi a=>?_⟩;rw[heap_grow_old _ _ (by simpa using hi)];have:g≠i:=λe=>a e.symm;simp[putRow,mapBlock,Sort.ahead,Array.getElem?_modify,this]
def F2_ (l c:List ByteArray):Prop:=c.Perm l/\c.Pairwise (λa b=>¬h8_ b a<0)
theorem tm_ {w:World} {F:Nat->Prop} {l:List ByteArray} {s:Value} (h:x_ 9 1 TxR w F l s) (T:l.length<=100000000) :
    Calls Tryz.prog 153 #[s] w λe w'=>e = .returned (.tuple #[])/\∃I:List ByteArray,F2_ l I/\SlR 1 TxR w' F I s/\Turn (λb=>s.ownBlock=some b) w w':=by
 obtain⟨cs,p,V,M,W⟩:=h;rcases p.2 with⟨A,h0⟩ | ⟨b,v,X,A,_,hb,y,U,Y,O⟩
 ·subst A;have B:l=[]:=List.eq_nil_of_length_eq_zero h0;subst B;refine (Any.slices_Sort_string_none Tryz.lays190 none 0 w).mono λe w' ⟨z,r⟩=>⟨z,[],⟨List.Perm.refl _,List.Pairwise.nil⟩,?_,?_⟩
  ·rw[r];exact SlR.nil ..
  ·rw[r];exact Turn.refl _ _
 ·subst A;have m:=b_ hb;have J:(l.map λs=>s.data.toList).toArray.size=l.length:=by simp
  have L:Holds encStr w b 0 (l.map λs=>s.data.toList).toArray:=by intro j q;rw[J]at q;refine⟨?_,by simp[World.frozen?,hb]⟩;have g:=p.cellAt j (by omega);have C:=az_ V q (show 0<1 by omega);rw[Nat.mul_one,Nat.add_zero]at C;rw[C,W j _ (List.getElem?_eq_getElem q)]at g;rw[Nat.zero_add,g,getElem!_pos _ j (by simpa using q)];simp[encStr]
  have o:=Any.slices_Sort_string Tryz.lays190 b 0 v (l.map λs=>s.data.toList) w L m (by simp;omega);rw[List.length_map]at o;refine o.mono λe w' ⟨z,n,os,r⟩=>⟨z,((l.map λs=>s.data.toList).mergeSort leB).map t1_,⟨?_,?_⟩,?_,?_⟩
  ·refine ((List.mergeSort_perm _ _).map t1_).trans (List.Perm.of_eq ?_);rw[List.map_map];exact (List.map_congr_left (λx _=>by simp[t1_])).trans (List.map_id _)
  ·rw[List.pairwise_map];have S : ∀ a b c : List UInt8, leB a b = true -> leB b c = true -> leB a c = true := λa b c h1 g => by simp only [leB, decide_eq_true_eq] at *; exact List.le_trans h1 g
   have D:∀a b:List UInt8,(leB a b || leB b a)=true:=λa b=>by simp only[leB,Bool.or_eq_true,decide_eq_true_eq];exact List.le_total a b
   refine (List.pairwise_mergeSort S D _).imp fun {a b} h=>?_;rw[lc_];simp only[leB,decide_eq_true_eq]at h;simpa [t1_,List.not_lt] using h
  ·have d:((l.map λs=>s.data.toList).mergeSort leB).length=l.length:=by rw[List.length_mergeSort,List.length_map]
   have N:Holds encStr w' b 0 ((l.map λs=>s.data.toList).mergeSort leB).toArray:=by rw[r];exact holds_sortWorld encStr w b 0 n _ _ os m L (by simp)
   refine⟨some ⟨b,0,none⟩,v,by simp,by simp;exact y,by simp,λ_=>⟨_,rfl,M b rfl,λi x u=>⟨#[.string x],rfl,λj q=>?_,rfl⟩⟩⟩;have f:=b8_ u;rw[List.length_map,d]at f;obtain rfl:j=0:=by omega
   have g:=(N i (by simpa [d] using f)).1;rw[List.getElem?_map,List.getElem?_eq_getElem (by rw[d];exact f)]at u;injection u with u;subst u;rw[Addr.add_lit,Nat.mul_one,Nat.add_zero,g,getElem!_pos _ i (by simpa [d] using f)];simp[encStr,t1_]
  ·rw[r];exact tl_.mono λi _ hi=>by rw[hi];rfl
def kc_ (n a:i_):Prop:=a.id=n.id/\F2_ n.labels a.labels/\yb_ n.props a.props
def Kw_ (n:i_) (w:World) (e:Ending) (w':World):Prop:=
 ∃c a,e = .returned (.agg c)/\Below w.heap.size w w'/\kc_ n a/\NoR w' (λb=>w.heap.size<=b/\b<w'.heap.size) a c
def kd_ (e a:l_):Prop:=a.id=e.id/\a.src=e.src/\a.dst=e.dst/\a.type=e.type/\yb_ e.props a.props
def Kx_ (x:l_) (w:World) (e:Ending) (w':World):Prop:=
 ∃c a,e = .returned (.agg c)/\Below w.heap.size w w'/\kd_ x a/\EdR w' (λb=>w.heap.size<=b/\b<w'.heap.size) a c
def tn_ (n:i_):Prop:=n.labels.length<=2000000/\n.props.length<=2000000/\(∀s,s∈n.labels->s.size<=2000000)/\∀p,p∈n.props->vs_ p
def F3_ (n:i_):Prop:=∀p,p∈n.props->vx_ p
def Lu_ (x:l_):Prop:=x.type.size<=2000000/\x.props.length<=2000000/\∀p,p∈x.props->vs_ p
def F4_ (x:l_):Prop:=∀p,p∈x.props->vx_ p
theorem x_.tx {w:World} {F F':Nat->Prop} {l:List ByteArray} {s:Value} {E:Nat} (h:x_ E 1 TxR w F l s) (d:∀g,s.ownBlock=some g->F' g):x_ E 1 TxR w F' l s:=by obtain⟨cs,h1,a,_,c⟩:=h;exact⟨cs,h1,a,d,c⟩
theorem vy_ (n:i_) (W:tn_ n) (a4:F3_ n) (F:Nat->Prop) (c:Array Value) (w:World) (hF:∀g,F g->g<w.heap.size) (hn:NoR w F n c) :
    Calls Tryz.prog 91 #[.agg c] w (Kw_ n w):=by
 obtain⟨L,P,rfl,⟨A1,c1,rfl,ba,av⟩,A2,U,rfl,bd,aq⟩:=hn;have HF:=q_ hF;have am:=q_ av;have ar:=q_ aq;have ac:=q_ W;have ai:=q_ a4;obtain⟨id,Q_⟩:=a_ n.id;rw[Q_.o];obtain⟨a,a2⟩:=a_ n.labels.length;obtain⟨Z,b4⟩:=a_ n.props.length;rw[a2.o]at am ⊢;rw[b4.o]at ar ⊢;have bi:a<=2000000:=by rw[<-a2.o];exact W.1
 clear hF av aq W a4 ba bd;obtain⟨z,m⟩:=a_ w.heap.size;obtain⟨B,O⟩:=a_ ((w.alloc (.cells #[.int .i64 id,.slice A1 a c1,.slice A2 Z U] 72)).alloc (.cells #[.int .i64 0,.slice none 0 0,.slice none 0 0] 72));have a7:=q_ (show Below w.heap.size w B from by rw[<-O.o];exact D_ w _ _);have f:=q_ (show B.heap.size=z+2 from by rw[<-O.o,<-m.o];simp);have aj:=q_ (show B.heap[z]?=some (.cells #[.int .i64 id,.slice A1 a c1,.slice A2 Z U] 72 (0,0)) from by rw[<-O.o,<-m.o,Below.heap_alloc _ _ _ (by simp)];exact heap_alloc_new w _);have b7:=q_ (show B.heap[z+1]?=some (.cells #[.int .i64 0,.slice none 0 0,.slice none 0 0] 72 (0,0)) from by rw[<-O.o,<-m.o];have:=heap_alloc_new (w.alloc (.cells #[.int .i64 id,.slice A1 a c1,.slice A2 Z U] 72)) (.cells #[.int .i64 0,.slice none 0 0,.slice none 0 0] 72);simpa using this);have HC:=q_ (x7_ n.labels F A1 a c1 (by omega) B (λg hg=>by have:=HF.o g hg;have:=a7.o.size;omega) (am.o.under TxR.good a7.o HF.o));have b1:B.cell? ⟨z,1,none⟩=some (.slice A1 a c1):=cell_of_heap aj.o 1;go_enter Tryz.func91,Tryz.ntmps91
 go_upto_region 1 with fail;rw[O.o,m.o];go_wp2_with fail;refine HC.o.mono ?_;rintro e r ⟨s3,rfl,T,S,a9⟩;obtain⟨u,x,rfl⟩:=S.form;rw[a2.o]at S a9 ⊢;have bb:=q_ T;have b6:=q_ (S.tx (F':=λb=>B.heap.size<=b/\b<r.heap.size) (λg hg=>⟨a9 g hg,by obtain⟨cs,h1,_⟩:=S;exact (h1.lt g hg).2⟩));have Y:=q_ ((T.block z (by rw[f.o];omega)).trans aj.o);have ay:=q_ ((T.block (z+1) (by rw[f.o];omega)).trans b7.o);have bj:z+2<=r.heap.size:=by have:=T.size;have:=f.o;omega
 clear T S a9 b1;have d1:r.cell? ⟨z,1,none⟩=some (.slice A1 a c1):=cell_of_heap Y.o 1;have f1:r.frozen? ⟨z,1,none⟩=false:=Lib.frozen_of_heap Y.o 1;go_upto_region 2 with fail;obtain⟨w4,af⟩:=a_ (r.setCell ⟨z,1,none⟩ (.slice u a x));have a8:=q_ (show Turn (λb=>b=z) r w4 from by rw[<-af.o];exact (Turn.refl (λb=>b=z) r).setCell (p:=⟨z,1,none⟩) (.inr rfl) _);have aa:=q_ (show w4.heap[z]?=some (.cells #[.int .i64 id,.slice u a x,.slice A2 Z U] 72 (0,0)) from by rw[<-af.o];exact heap_setCell_same r z 1 _ _ _ Y.o);have az:=q_ ((a8.o.block (z+1) (by omega) (by omega)).trans ay.o);have ao:=q_ (b6.o.turn TxR.good a8.o (λb hb=>hb.2) (λb hb e=>by have:=hb.1;have:=f.o;omega));have HS:=q_ (tm_ ao.o (by rw[a2.o];omega));rw[af.o];have g1:w4.cell? ⟨z,1,none⟩=some (.slice u a x):=cell_of_heap aa.o 1;clear d1 f1;go_wp2_with fail;refine HS.o.mono ?_;rintro e w5 ⟨rfl,labels,ag,ak,y⟩;have q:∀b,(Value.slice u a x).ownBlock=some b->B.heap.size<=b:=λb hb=>by obtain⟨cs,_,_,b5,_⟩:=ao.o;exact (b5 b hb).1
 have bk:=q_ q;have b3:=q_ ag;have bc:=q_ ak;have bl:=q_ y;have bg:r.heap.size<=w4.heap.size:=a8.o.size;have bf:w4.heap.size<=w5.heap.size:=y.size;have ab:=q_ ((y.block z (by omega) (λh=>by have:=q z h;have:=f.o;omega)).trans aa.o);have b0:=q_ ((y.block (z+1) (by omega) (λh=>by have:=q (z+1) h;have:=f.o;omega)).trans az.o)
 have a3:=q_ (show Below w.heap.size w w5 from
  ((a7.o.trans (bb.o.mono a7.o.size)).trans (a8.o.below (λi _ hi=>by have:=m.o;omega) (by have:=m.o;omega))).trans (y.below (λi _ hi=>by have:=q i hi;have:=f.o;have:=m.o;omega) (by have:=m.o;omega)))
 have HP:=q_ (rk_ n.props (λp V=>⟨ac.o.2.2.2 p V,ai.o p V⟩) ac.o.2.1 F A2 Z U w5 (λg hg=>Nat.lt_of_lt_of_le (HF.o g hg) a3.o.size) (ar.o.under PaR.good a3.o HF.o));have g2:w5.cell? ⟨z,2,none⟩=some (.slice A2 Z U):=cell_of_heap ab.o 2;clear ag ak y q g1;go_wp2_with fail;refine HP.o.mono ?_;rintro e w6 ⟨s6,rfl,I,props,ap,A,C,rfl,D,N⟩;obtain⟨J,a6⟩:=a_ props.length;rw[a6.o]at N D ⊢;have aw:=q_ I;have b8:=q_ ap;have b9:=q_ (And.intro D N);have bh:w5.heap.size<=w6.heap.size:=I.size;have a0:=q_ ((I.block z (by omega)).trans ab.o);have b2:=q_ ((I.block (z+1) (by omega)).trans b0.o);have g2:w6.cell? ⟨z,2,none⟩=some (.slice A2 Z U):=cell_of_heap a0.o 2;have f2:w6.frozen? ⟨z,2,none⟩=false:=Lib.frozen_of_heap a0.o 2;clear I ap D N;go_upto_region 4 with fail;obtain⟨j,ae⟩:=a_ (w6.setCell ⟨z,2,none⟩ (.slice A J C));have au:=q_ (show Turn (λb=>b=z) w6 j from by rw[<-ae.o];exact (Turn.refl (λb=>b=z) w6).setCell (p:=⟨z,2,none⟩) (.inr rfl) _);have a1:=q_ (show j.heap[z]?=some (.cells #[.int .i64 id,.slice u a x,.slice A J C] 72 (0,0)) from by rw[<-ae.o];exact heap_setCell_same w6 z 2 _ _ _ a0.o);have d:=q_ ((au.o.block (z+1) (by omega) (by omega)).trans b2.o);rw[ae.o];have g0:j.cell? ⟨z,0,none⟩=some (.int .i64 id):=cell_of_heap a1.o 0;have g1:j.cell? ⟨z,1,none⟩=some (.slice u a x):=cell_of_heap a1.o 1;have g2:j.cell? ⟨z,2,none⟩=some (.slice A J C):=cell_of_heap a1.o 2;have r0:j.cell? ⟨z+1,0,none⟩=some (.int .i64 0):=cell_of_heap d.o 0;have y0:j.frozen? ⟨z+1,0,none⟩=false:=Lib.frozen_of_heap d.o 0;have r1:j.cell? ⟨z+1,1,none⟩=some (.slice none 0 0):=cell_of_heap d.o 1;have y1:j.frozen? ⟨z+1,1,none⟩=false:=Lib.frozen_of_heap d.o 1;have r2:j.cell? ⟨z+1,2,none⟩=some (.slice none 0 0):=cell_of_heap d.o 2;have y2:j.frozen? ⟨z+1,2,none⟩=false:=Lib.frozen_of_heap d.o 2;go_wp2_with fail;obtain⟨X,ah⟩:=a_ (((j.setCell ⟨z+1,0,none⟩ (.int .i64 id)).setCell ⟨z+1,1,none⟩ (.slice u a x)).setCell ⟨z+1,2,none⟩ (.slice A J C));have a5:X.heap[z+1]?=some (.cells #[.int .i64 id,.slice u a x,.slice A J C] 72 (0,0)):=by rw[<-ah.o];exact heap_setCell_same _ (z+1) 2 _ _ _ (heap_setCell_same _ (z+1) 1 _ _ _ (heap_setCell_same _ (z+1) 0 _ _ _ d.o))
 have M:=q_ (show Turn (λb=>b=z\/b=z+1) w6 X from by rw[<-ah.o];exact (((au.o.mono (S':=λb=>b=z\/b=z+1) (λi _ h=>.inl h)).setCell (p:=⟨z+1,0,none⟩) (.inr (.inr rfl)) _).setCell (p:=⟨z+1,1,none⟩) (.inr (.inr rfl)) _).setCell (p:=⟨z+1,2,none⟩) (.inr (.inr rfl)) _);rw[ah.o];have q0:X.cell? ⟨z+1,0,none⟩=some (.int .i64 id):=cell_of_heap a5 0;have q1:X.cell? ⟨z+1,1,none⟩=some (.slice u a x):=cell_of_heap a5 1;have q2:X.cell? ⟨z+1,2,none⟩=some (.slice A J C):=cell_of_heap a5 2;clear a5 r0 r1 r2 y0 y1 y2 g0 g1 g2 f2;go_wp2_with fail;refine bodyPost_ret (v:=.agg #[.int .i64 id,.slice u a x,.slice A J C]) (by simp[results,Tryz.results91,go_sem,q0,q1,q2]) rfl ⟨_,⟨id,labels,props⟩,rfl,?_,⟨Q_.o.symm,b3.o,b8.o⟩,_,_,rfl,?_,?_⟩
 ·exact (a3.o.trans (aw.o.mono a3.o.size)).trans (M.o.below (λi _ h=>by have:=m.o;omega) (by have:=m.o;omega))
 ·have hk:∀p:Addr,B.heap.size<=p.block/\p.block<r.heap.size->X.cell? p=w5.cell? p:=λp V=>
    (M.o.cell (by omega) (λh=>by have:=V.1;have:=f.o;omega)).trans (aw.o.cell (by omega))
  refine SlR.mono TxR.good (SlR.keep TxR.good bc.o hk) λb hb=>⟨?_,?_⟩
  ·have:=hb.1;have:=f.o;have:=m.o;omega
  ·have:=hb.2;have:=M.o.size;omega
 ·obtain⟨D,N⟩:=b9.o
  have hk:∀p:Addr,w5.heap.size<=p.block/\p.block<w6.heap.size->X.cell? p=w6.cell? p:=λp V=>
   M.o.cell V.2 (λh=>by have:=V.1;omega)
  refine SlR.mono PaR.good (SlR.keep (s:=.slice A J C) PaR.good ⟨A,C,by rw[a6.o],by rw[a6.o];exact D,by rw[a6.o];exact N⟩ hk) λb hb=>⟨?_,?_⟩
  ·have:=hb.1;have:=m.o;omega
  ·have:=hb.2;have:=M.o.size;omega
theorem vz_ (x:l_) (a4:Lu_ x) (S:F4_ x) (F:Nat->Prop) (c:Array Value) (w:World) (hF:∀g,F g->g<w.heap.size) (hn:EdR w F x c) :
    Calls Tryz.prog 93 #[.agg c] w (Kx_ x w):=by
 obtain⟨P,rfl,T,U,rfl,ag,ab⟩:=hn;have HF:=q_ hF;have a7:=q_ ab;have a2:=q_ a4;have a5:=q_ S;obtain⟨id,Q_⟩:=a_ x.id;obtain⟨src,W⟩:=a_ x.src;obtain⟨dst,a0⟩:=a_ x.dst;obtain⟨f,X⟩:=a_ x.type;obtain⟨V,a8⟩:=a_ x.props.length;rw[a8.o]at a7;rw[Q_.o,W.o,a0.o,X.o,a8.o];clear hF ab a4 S ag;obtain⟨z,L⟩:=a_ w.heap.size;obtain⟨A,C⟩:=a_ ((w.alloc (.cells #[.int .i64 id,.int .i64 src,.int .i64 dst,.string f,.slice T V U] 74)).alloc (.cells #[.int .i64 0,.int .i64 0,.int .i64 0,.string ⟨#[]⟩,.slice none 0 0] 74));have O:=q_ (show Below w.heap.size w A from by rw[<-C.o];exact D_ w _ _);have q:=q_ (show A.heap.size=z+2 from by rw[<-C.o,<-L.o];simp);have a6:=q_ (show A.heap[z]?=some (.cells #[.int .i64 id,.int .i64 src,.int .i64 dst,.string f,.slice T V U] 74 (0,0)) from by rw[<-C.o,<-L.o,Below.heap_alloc _ _ _ (by simp)];exact heap_alloc_new w _);have ah:=q_ (show A.heap[z+1]?=some (.cells #[.int .i64 0,.int .i64 0,.int .i64 0,.string ⟨#[]⟩,.slice none 0 0] 74 (0,0)) from by rw[<-C.o,<-L.o];have:=heap_alloc_new (w.alloc (.cells #[.int .i64 id,.int .i64 src,.int .i64 dst,.string f,.slice T V U] 74)) (.cells #[.int .i64 0,.int .i64 0,.int .i64 0,.string ⟨#[]⟩,.slice none 0 0] 74);simpa using this);have HP:=q_ (rk_ x.props (λp Y=>⟨a2.o.2.2 p Y,a5.o p Y⟩) a2.o.2.1 F T V U A (λg hg=>by have:=HF.o g hg;have:=O.o.size;omega) (a7.o.under PaR.good O.o HF.o));have b4:A.cell? ⟨z,4,none⟩=some (.slice T V U):=cell_of_heap a6.o 4;go_enter Tryz.func93,Tryz.ntmps93
 go_upto_region 1 with fail;rw[C.o,L.o];go_wp2_with fail;refine HP.o.mono ?_;rintro e w6 ⟨s6,rfl,I,props,aa,r,u,rfl,D,B⟩;obtain⟨J,N⟩:=a_ props.length;rw[N.o]at B D ⊢;have ai:=q_ I;have ae:=q_ aa;have af:=q_ (And.intro D B);have aj:A.heap.size<=w6.heap.size:=I.size;have M:=q_ ((I.block z (by rw[q.o];omega)).trans a6.o);have ac:=q_ ((I.block (z+1) (by rw[q.o];omega)).trans ah.o);have g4:w6.cell? ⟨z,4,none⟩=some (.slice T V U):=cell_of_heap M.o 4;have f4:w6.frozen? ⟨z,4,none⟩=false:=Lib.frozen_of_heap M.o 4;clear I aa D B b4;go_upto_region 2 with fail;obtain⟨d,a3⟩:=a_ (w6.setCell ⟨z,4,none⟩ (.slice r J u));have a9:=q_ (show Turn (λb=>b=z) w6 d from by rw[<-a3.o];exact (Turn.refl (λb=>b=z) w6).setCell (p:=⟨z,4,none⟩) (.inr rfl) _);have j:=q_ (show d.heap[z]?=some (.cells #[.int .i64 id,.int .i64 src,.int .i64 dst,.string f,.slice r J u] 74 (0,0)) from by rw[<-a3.o];exact heap_setCell_same w6 z 4 _ _ _ M.o);have a:=q_ ((a9.o.block (z+1) (by have:=q.o;omega) (by omega)).trans ac.o);rw[a3.o];have g0:d.cell? ⟨z,0,none⟩=some (.int .i64 id):=cell_of_heap j.o 0;have g1:d.cell? ⟨z,1,none⟩=some (.int .i64 src):=cell_of_heap j.o 1;have g2:d.cell? ⟨z,2,none⟩=some (.int .i64 dst):=cell_of_heap j.o 2;have g3:d.cell? ⟨z,3,none⟩=some (.string f):=cell_of_heap j.o 3;have r0:d.cell? ⟨z+1,0,none⟩=some (.int .i64 0):=cell_of_heap a.o 0;have y0:d.frozen? ⟨z+1,0,none⟩=false:=Lib.frozen_of_heap a.o 0;have r1:d.cell? ⟨z+1,1,none⟩=some (.int .i64 0):=cell_of_heap a.o 1;have y1:d.frozen? ⟨z+1,1,none⟩=false:=Lib.frozen_of_heap a.o 1;have r2:d.cell? ⟨z+1,2,none⟩=some (.int .i64 0):=cell_of_heap a.o 2;have y2:d.frozen? ⟨z+1,2,none⟩=false:=Lib.frozen_of_heap a.o 2;have r3:d.cell? ⟨z+1,3,none⟩=some (.string ⟨#[]⟩):=cell_of_heap a.o 3;have y3:d.frozen? ⟨z+1,3,none⟩=false:=Lib.frozen_of_heap a.o 3;have r4:d.cell? ⟨z+1,4,none⟩=some (.slice none 0 0):=cell_of_heap a.o 4;have y4:d.frozen? ⟨z+1,4,none⟩=false:=Lib.frozen_of_heap a.o 4;clear g4 f4;have g4:d.cell? ⟨z,4,none⟩=some (.slice r J u):=cell_of_heap j.o 4;go_wp2_with fail;obtain⟨y,a1⟩:=a_ ((((((d.setCell ⟨z+1,0,none⟩ (.int .i64 id)).setCell ⟨z+1,1,none⟩ (.int .i64 src)).setCell ⟨z+1,2,none⟩ (.int .i64 dst)).setCell ⟨z+1,3,none⟩ (.string f)).setCell ⟨z+1,4,none⟩ (.slice r J u)))
 have m:y.heap[z+1]?=some (.cells #[.int .i64 id,.int .i64 src,.int .i64 dst,.string f,.slice r J u] 74 (0,0)):=by rw[<-a1.o];exact (heap_setCell_same _ (z+1) 4 _ _ _ (heap_setCell_same _ (z+1) 3 _ _ _ (heap_setCell_same _ (z+1) 2 _ _ _ (heap_setCell_same _ (z+1) 1 _ _ _ (heap_setCell_same _ (z+1) 0 _ _ _ a.o)))))
 have Z:=q_ (show Turn (λb=>b=z\/b=z+1) w6 y from by rw[<-a1.o];exact ((((((a9.o.mono (S':=λb=>b=z\/b=z+1) (λi _ h=>.inl h)).setCell (p:=⟨z+1,0,none⟩) (.inr (.inr rfl)) _).setCell (p:=⟨z+1,1,none⟩) (.inr (.inr rfl)) _).setCell (p:=⟨z+1,2,none⟩) (.inr (.inr rfl)) _).setCell (p:=⟨z+1,3,none⟩) (.inr (.inr rfl)) _).setCell (p:=⟨z+1,4,none⟩) (.inr (.inr rfl)) _));rw[a1.o];have q0:y.cell? ⟨z+1,0,none⟩=some (.int .i64 id):=cell_of_heap m 0;have q1:y.cell? ⟨z+1,1,none⟩=some (.int .i64 src):=cell_of_heap m 1;have q2:y.cell? ⟨z+1,2,none⟩=some (.int .i64 dst):=cell_of_heap m 2;have q3:y.cell? ⟨z+1,3,none⟩=some (.string f):=cell_of_heap m 3;have q4:y.cell? ⟨z+1,4,none⟩=some (.slice r J u):=cell_of_heap m 4;clear m r0 y0 g0 r1 y1 g1 r2 y2 g2 r3 y3 g3 r4 y4 g4;go_wp2_with fail;refine bodyPost_ret (v:=.agg #[.int .i64 id,.int .i64 src,.int .i64 dst,.string f,.slice r J u]) (by simp[results,Tryz.results93,go_sem,q0,q1,q2,q3,q4]) rfl ⟨_,⟨id,src,dst,f,props⟩,rfl,?_,⟨Q_.o.symm,W.o.symm,a0.o.symm,X.o.symm,ae.o⟩,_,rfl,?_⟩
 ·exact (O.o.trans (ai.o.mono O.o.size)).trans (Z.o.below (λi _ h=>by have:=L.o;omega) (by have:=L.o;have:=q.o;omega))
 ·obtain⟨D,B⟩:=af.o
  have hk:∀p:Addr,A.heap.size<=p.block/\p.block<w6.heap.size->y.cell? p=w6.cell? p:=λp Y=>
   Z.o.cell Y.2 (λh=>by have:=Y.1;have:=q.o;omega)
  refine SlR.mono PaR.good (SlR.keep (s:=.slice r J u) PaR.good ⟨r,u,by rw[N.o],by rw[N.o];exact D,by rw[N.o];exact B⟩ hk) λb hb=>⟨?_,?_⟩
  ·have:=hb.1;have:=L.o;have:=q.o;omega
  ·have:=hb.2;have:=Z.o.size;omega
end
section
open Go Go.RowKit Go.Maps Go.WideMaps Go.WideElems Go.MapKept Go.ChangeMaps
theorem v0_ {es:List MapEntry} (f:es.Pairwise λx y=>x.key≠y.key) {i j:Nat} {a b:MapEntry} (hi:es[i]?=some a) (g:es[j]?=some b) (h:a.key=b.key):i=j:=by
 obtain⟨d,rfl⟩:=List.getElem?_eq_some_iff.1 hi;obtain⟨c,rfl⟩:=List.getElem?_eq_some_iff.1 g;rw[List.pairwise_iff_getElem]at f;rcases Nat.lt_trichotomy i j with h1 | h1 | h1
 ·exact absurd h (f i j d c h1)
 ·exact h1
 ·exact absurd h.symm (f j i c d h1)
section
variable {H:Type} {P:Program} {t k e:TypeId} {R:Value->Option (DataW H×List MemPlace)} {b:Nat} {es:Array MapEntry} {clock:Nat}
theorem Bz_ (K:Keyed P k) (B:P.underlying t=some (.map k e)) {z:Value} (hz:∀u:World,(zeroValue e).run P u = .ok z u) (F:Fit P k R es clock) {key:Value} {T:Lit} (f:keyOf P k key=some T) (w:World) (hb:w.heap[b]?=some (.map es clock)) :
    ∃(N:Value) (st:Nat) (es1:Array MapEntry) (clock1:Nat),(Instr.mapEntry t (.map (some b)) key).run P w = .ok (.tuple #[N,goInt st]) (setBlock w b (.map es1 clock1)) /\
     (∀d:World,d.heap[b]?=some (.map es clock)->(Instr.lookup t (.map (some b)) key false).run P d = .ok N d) /\
     ∀val:Value,∃D p,(∀w2:World,w2.heap[b]?=some (.map es1 clock1)->(Instr.entryStore t (.map (some b)) (goInt st) val).run P w2 = .ok () (setBlock w2 b (.map D p))) /\
      ∀d:World,d.heap[b]?=some (.map es clock)->(Instr.mapUpdate t (.map (some b)) key val).run P d = .ok () (setBlock d b (.map D p)):=by
 obtain⟨V,O,_⟩:=F.stamped;have U:es.toList.Pairwise (λx y=>x.key≠y.key):=((stamped_iff es clock).1 F.stamped).2.2;rcases K.find w f es.toList F.keys with⟨h1,h⟩ | ⟨j,e0,h1,h,A⟩
 ·have m:∀d:World,(Instr.findKey k key es.toList).run P d = .ok none d:=λd=>by
    rcases K.find d f es.toList F.keys with⟨J,_⟩ | ⟨j,e0,_,o,I⟩
    ·exact J
    ·exact absurd I (h e0 (List.mem_of_getElem? o))
  refine⟨z,clock,es.push ⟨key,z,clock⟩,clock+1,?_,λd g=>?_,λval=>⟨es.push ⟨key,val,clock⟩,clock+1,λw2 q=>?_,λd g=>?_⟩⟩
  ·simp[Instr.mapEntry,run_underlying B,MapKept.run_getObj_map hb,K.check w false f,h1,hz,MapKept.run_setObj_map _ hb,Result.andThen,setBlock]
  ·simp[Instr.lookup,run_underlying B,MapKept.run_getObj_map g,K.check d _ f,m d,hz,Result.andThen]
  ·have r:(es.push ⟨key,z,clock⟩).findIdx? (λe=>((e.born:Nat):Int)==((clock:Nat):Int))=some es.size:=by rw[findIdx_arr];have:=findIdx_born (l:=(es.push ⟨key,z,clock⟩).toList) (j:=es.size) (e0:=⟨key,z,clock⟩) (by simp only[Array.toList_push,List.map_append,List.map_cons,List.map_nil];refine List.nodup_append.2 ⟨O,by simp,λa S c X e1=>?_⟩;simp only[List.mem_singleton]at X;obtain⟨x,W,rfl⟩:=List.mem_map.1 S;have:=V x W;omega) (by simp);exact this
   have v:(es.push ⟨key,z,clock⟩).modify es.size (λe=>{ e with val:=val })=es.push ⟨key,val,clock⟩:=by apply Array.ext';rw[Array.toList_modify,Array.toList_push,Array.toList_push,<-Array.length_toList,modify_last]
   simp[Instr.entryStore,MapKept.run_getObj_map q,asInt,asIntOf,goInt,r,v,MapKept.run_setObj_map _ q,Result.andThen,setBlock]
  ·simp[Instr.mapUpdate,run_underlying B,MapKept.run_getObj_map g,K.check d false f,m d,MapKept.run_setObj_map _ g,Result.andThen,setBlock]
 ·have M:es[j]?=some e0:=by simpa using h
  have i:∀d:World,(Instr.findKey k key es.toList).run P d = .ok (some (j,e0.val)) d:=λd=>by
   rcases K.find d f es.toList F.keys with⟨_,o⟩ | ⟨Z,Y,J,o,I⟩
   ·exact absurd A (o e0 (List.mem_of_getElem? h))
   ·obtain rfl:=v0_ U h o (by rw[A,I]);rw[h]at o;injection o with o;rw[o];exact J
  have C:es.modify j (λe=>{ e with key:=key })=es:=by
   apply Array.ext';rw[Array.toList_modify,modify_eq_set _ _ _ _ h];have:({ e0 with key:=key }:MapEntry)=e0:=by rw[<-A]
   rw[this];exact set_self _ _ _ h
  refine⟨e0.val,e0.born,es,clock,?_,λd g=>?_,λval=>⟨es.modify j (λL=>{ L with key:=key,val:=val }),clock,λw2 q=>?_,λd g=>?_⟩⟩
  ·simp[Instr.mapEntry,run_underlying B,MapKept.run_getObj_map hb,K.check w false f,h1,M,A,K.stays w f,C,MapKept.run_setObj_map _ hb,Result.andThen,setBlock]
  ·simp[Instr.lookup,run_underlying B,MapKept.run_getObj_map g,K.check d _ f,i d,Result.andThen]
  ·have r:es.findIdx? (λe=>((e.born:Nat):Int)==((e0.born:Nat):Int))=some j:=by rw[findIdx_arr];exact findIdx_born O h
   have v:es.modify j (λe=>{ e with val:=val })=es.modify j (λL=>{ L with key:=key,val:=val }):=by apply Array.ext';rw[Array.toList_modify,Array.toList_modify,modify_eq_set _ _ _ _ h,modify_eq_set _ _ _ _ h,<-A]
   simp[Instr.entryStore,MapKept.run_getObj_map q,asInt,asIntOf,goInt,r,v,MapKept.run_setObj_map _ q,Result.andThen,setBlock]
  ·simp[Instr.mapUpdate,run_underlying B,MapKept.run_getObj_map g,K.check d false f,i d,M,A,K.stays d f,MapKept.run_setObj_map _ g,Result.andThen,setBlock]
end
theorem F5_:laidOutB Tryz.prog=true:=by kernel_rfl
theorem Io_:Keyed Tryz.prog 165:=Keyed.of_law (deep_law_laid (m:=9999) F5_ (by decide) (of_decide_eq_true (by kernel_rfl)) (by kernel_rfl) (by kernel_rfl))
theorem F6_:Tryz.prog.keyType 165=true:=by kernel_rfl
theorem F7_:Tryz.prog.cellsOf 165=2:=by kernel_rfl
theorem F8_:Tryz.prog.cellsOf 2=1:=by kernel_rfl
theorem F9_:Tryz.prog.cellsOf 3=1:=by kernel_rfl
theorem Mb_ (a d:Int) (c:VI a) (f:VI d):∃l,keyOf Tryz.prog 165 (.agg #[.int .i64 a,.int .i64 d])=some l:=by obtain⟨m,g⟩:∃m,Tryz.prog.types.size=m+1:=⟨Tryz.prog.types.size-1,by kernel_rfl⟩;unfold VI at c f;unfold keyOf;rw[Tryz.underlying165,g];simp[F6_,Value.formed,Tryz.underlying165,F7_,F8_,F9_,Program.keyLits,Tryz.underlying2,Tryz.underlying3,Value.cells,c,f]
noncomputable def Ga_ (a d:Int):Lit:=match keyOf Tryz.prog 165 (.agg #[.int .i64 a,.int .i64 d]) with
 | some l=>l
 | none=>.bool false
theorem nr_ {a d:Int} (c:VI a) (g:VI d):keyOf Tryz.prog 165 (.agg #[.int .i64 a,.int .i64 d])=some (Ga_ a d):=by obtain⟨l,f⟩:=Mb_ a d c g;unfold Ga_;rw[f]
theorem Gb_ {a d f g:Int} (m:VI a) (o:VI d) (i:VI f) (j:VI g) (h:Ga_ a d=Ga_ f g):a=f/\d=g:=by have h1:=nr_ m o;rw[h]at h1;have c:=Io_.inj h1 (nr_ i j);injection c with c;injection c with c;injection c with c h3;injection h3 with h3;injection c with _ c;injection h3 with _ h3;exact⟨c,h3⟩
def Jv_:DataW Unit->List (DataW Unit)
 | .slice es _=>es
 | _=>[]
open Go.ChangeShapes in
theorem rl_ {w:World} {a:Nat} {e:TypeId} {q:IntKind} {v:Value} {c:List Int} (h:w.ownsInts a e q v c):Jv_ (rowDatum (H:=Unit) q v c)=lits q c:=by
 rcases h.datum (H:=Unit) with⟨h1,d⟩ | h1
 ·rw[h1,d];rfl
 ·rw[h1];rfl
def Lv_ (l:List Nat):List Int:=l.map Int.ofNat
def ds_ (w:World) (c m n:Nat) (H:Int->Int->List Nat):Prop:=
 ∃D:DataW Unit,w.ownsGroups Tryz.prog 165 c 3 .i64 m n D/\∀a d,VI a->VI d->Jv_ (D.atKey (Ga_ a d) .nil)=Go.ChangeShapes.lits .i64 (Lv_ (H a d))
theorem ds_.isMap {w:World} {a m n:Nat} {D:DataW Unit} (h:w.ownsGroups Tryz.prog 165 a 3 .i64 m n D):IsMap D:=by obtain⟨es,clock,_,_,_,rfl,_⟩:=h;exact⟨_,rfl⟩
theorem v1_ {H:Type} {P:Program} {k:TypeId} {a:Nat} {e:TypeId} {q:IntKind} {b n:Nat} {D:DataW H} {w w':World} {S:Nat->Prop} (h:w.ownsGroups P k a e q b n D) (A:Turn S w w') (hb:¬S b) (M:∀g,a<=g->¬S g):w'.ownsGroups P k a e q b n D:=by
 obtain⟨es,clock,j,F,J,rfl,u,o,p⟩:=h;have d:∀{v:Value} {i:List Int},w.ownsInts a e q v i->w'.ownsInts a e q v i:=λc=>⟨A.owns c.1 (λg I=>M g (c.1.lt g I).1),c.2⟩;have r:∀x∈es.toList,∀z,rowElem (H:=H) w a e q x.val=some z->rowElem w' a e q x.val=some z:=by intro x _ z hz;obtain⟨N,c,rfl⟩:=rowElem_inv hz;exact rowElem_mk (d c)
 obtain⟨L,f,_⟩:=F.stay r;refine⟨es,clock,(A.block b (b_ j) hb).trans j,L,J,by rw[f],u,λx B N c=>?_,p⟩;obtain⟨y,C⟩:=F.reads x B;obtain⟨z,hz,_⟩:=rd_val C;obtain⟨i,m,_⟩:=rowElem_inv hz;rw[c.unique (d m)];exact o x B i m
theorem ds_.turn {w w':World} {a m n:Nat} {H:Int->Int->List Nat} {S:Nat->Prop} (h:ds_ w a m n H) (f:Turn S w w') (c:¬S m) (i:∀g,a<=g->¬S g):ds_ w' a m n H:=by obtain⟨D,h1,d⟩:=h;exact⟨D,v1_ h1 f c i,d⟩
theorem qj_ (w:World) (b:Nat) (o a:Obj):setBlock (setBlock w b o) b a=setBlock w b a:=by unfold setBlock;simp
def dt_ (H:Int->Int->List Nat) (a d:Int) (x:Nat):Int->Int->List Nat:=λc f=>if c=a/\f=d then H a d++[x] else H c f
def gj_ (w:World) (b:Nat):Prop:=∀(cs:Array Value) (e:TypeId) (f:Nat×Nat),w.heap[b]?=some (.cells cs e f)->e=3
theorem v2_ {w:World} {b:Nat} (h:w.heap.size<=b):gj_ w b:=λcs e f hb=>by
 rw[Array.getElem?_eq_none h]at hb
 cases hb
theorem v3_ {w:World} {a sz n:Nat} {v:Value} {xs:List Value} (h:w.ownsRow a 3 sz v n xs) {g:Nat} (c:v.ownBlock=some g):gj_ w g:=λcs e f hb=>by
 rcases h.2 with⟨rfl,_⟩ | ⟨d,j,m,rfl,_,i,_⟩
 ·cases c
 ·have h1:d=g:=by injection c
  subst h1;rw[i]at hb;injection hb with hb;injection hb with _ h2 _;exact h2.symm
def Ip_ (c m n:Nat) (H:Int->Int->List Nat) (a d:Int) (x:Nat) (w:World) (e:Ending) (w':World):Prop:=
 e = .returned (.tuple #[])/\ds_ w' c m (n+1) (dt_ H a d x)/\Turn (λb=>b=m\/(c<=b/\gj_ w b)) w w'
theorem jf_ (p c m n:Nat) (H:Int->Int->List Nat) (a d:Int) (x:Nat) (Ns Es T A:Value) (w:World) (hp:w.heap[p]?=some (.cells #[Ns,Es,.map (some m),T,A] 143 (0,0)))
    (hh:ds_ w c m n H) (ha:VI a) (hd:VI d) (hx:x<=1000000) (hn:n<=1000000) (ai:c<=w.heap.size) :
    Calls Tryz.prog 99 #[.pointer (some ⟨p,0,none⟩),.int .i64 a,.int .i64 d,.int .i64 (x:Int)] w (Ip_ c m n H a d x w):=by
 obtain⟨D,X,O⟩:=hh;have V:=nr_ ha hd;obtain⟨v,zs,af,a5,a0,ap,a4⟩:=X.at Io_ Tryz.underlying140 (E:=94) (by kernel_rfl) (by unfold maxLen;omega) V;have M:=ds_.isMap X;obtain⟨es,clock,Z,F,hs,b9,bs,b2,bc⟩:=X;have ac:=b_ Z;have b0:=b_ hp;obtain⟨z,W⟩:=a_ w.heap.size;obtain⟨w2,a1⟩:=a_ (((w.alloc (.cells #[.int .i64 a,.int .i64 d] 165)).alloc (.cells #[.int .i64 (x:Int)] 3)).drew);have j:=q_ (show Below w.heap.size w w2 from by rw[<-a1.o];exact (((Below.refl _ _).alloc (Nat.le_refl _) _).alloc (by simp) _).drew);have a7:=q_ (show w2.heap.size=z+2 from by rw[<-a1.o,<-W.o];show ((w.alloc _).alloc _).heap.size=_;simp);have b7:=q_ (show w2.heap[z+1]?=some (.cells #[.int .i64 (x:Int)] 3 (0,0)) from by rw[<-a1.o,<-W.o];have h1:=heap_alloc_new (w.alloc (.cells #[.int .i64 a,.int .i64 d] 165)) (.cells #[.int .i64 (x:Int)] 3);rw[show (w.alloc (.cells #[.int .i64 a,.int .i64 d] 165)).heap.size=w.heap.size+1 by simp]at h1;exact h1);have U:w2.heap[m]?=some (.map es clock):=(j.o.block m ac).trans Z;obtain⟨v0,st,ae,r,bk,ao,av⟩:=Bz_ (b:=m) (t:=140) Io_ Tryz.underlying140 (z:=.slice none 0 0) (λu=>by kernel_rfl) F V w2 U;have bf:v0=v:=by have h1:=ao w Z;rw[af]at h1;injection h1 with h1;exact h1.symm
 subst bf;obtain⟨w3,ah⟩:=a_ (setBlock w2 m (.map ae r));rw[ah.o,<-a1.o]at bk;have q:=q_ (show Turn (λb=>b=m) w2 w3 from by rw[<-ah.o];exact⟨rfl,rfl,rfl,by simp[setBlock],λi _ hi=>heap_setBlock_other U _ hi⟩);have bh:=q_ (show w3.heap[m]?=some (.map ae r) from by rw[<-ah.o];exact heap_setBlock_same U _);have f:∀g,v0.ownBlock=some g->c<=g/\g<w.heap.size:=λg L=>a0.1.lt g L;have au:=q_ f;have a6:=q_ (q.o.owns ((Turn.of_below j.o).owns a0.1 (λg L h=>by have:=(f g L).2;omega)) (λg L h=>by have:=(f g L).1;omega));obtain⟨ln,ab⟩:=a_ zs.length;rw[ab.o]at a6;have bo:ln<=1000000:=by rw[<-ab.o];omega
 have aj:=q_ (World.news_of_block (w:=w3) (cs:=#[.int .i64 (x:Int)]) ((q.o.block (z+1) (by rw[a7.o];omega) (by have:=W.o;omega)).trans b7.o));obtain⟨S3,I⟩:=a_ w3.heap.size;have bn:z+2<=S3:=by have:=q.o.size;have:=a7.o;have:=I.o;omega
 have b8:=q_ av;have b5:=q_ a4;have a9:=q_ a0;have bd:=q_ (And.intro O (And.intro a5 M));have bb:=q_ ap;have bm:c<=z:=by rw[<-W.o];exact ai
 have bp:m<z:=by rw[<-W.o];exact ac
 have b1:=q_ U;have ar:=q_ (And.intro ha hd);have c2:((w.alloc (.cells #[.int .i64 a,.int .i64 d] 165)).drew).cell? ⟨p,2,none⟩=some (.map (some m)):=by rw[show (w.alloc (.cells #[.int .i64 a,.int .i64 d] 165)).drew.cell? ⟨p,2,none⟩=(w.alloc (.cells #[.int .i64 a,.int .i64 d] 165)).cell? ⟨p,2,none⟩ from rfl,World.cell?_alloc_lt w _ _ b0];exact cell_of_heap hp 2
 have bq:w.cell? ⟨p,2,none⟩=some (.map (some m)):=cell_of_heap hp 2;clear ao av a4 O a0 a5 F hs b9 b2 bc Z U f af V hp ap M ha hd;obtain⟨i0,bg,az,aw,b3⟩:=info_parts G2_;go_enter Tryz.func99,Tryz.ntmps99
 go_upto_region 1 with fail;go_region_law (refine step_append_lies _ rfl _ _ 94 rfl c 3 i0 (.int .i64 0) 1 8 Tryz.underlying94 bg az aw b3 rfl (by decide) v0 ln (zs.map (Value.int .i64)) rfl (by exact a6.o) ⟨w.heap.size+1,0,none⟩ 1 1 [.int .i64 (x:Int)] rfl rfl (by rw[W.o];exact aj.o) (G1_ _ _) (by omega) (by unfold maxLen;omega) (by omega) (by have:=I.o;omega) S3 (by exact I.o) (λg cp B ho L hl _=>?_);obtain⟨aq,N,ag,aa⟩:=b8.o (.slice (some ⟨g,0,none⟩) (ln+1) cp);have J:=q_ (show B.heap[m]?=some (.map ae r) from (L.block m (by have:=I.o;omega) (λe=>by have:=(au.o m e.symm).1;omega)).trans bh.o);have br:(Instr.entryStore 140 (.map (some m)) (.int .i64 (st:Int)) (.slice (some ⟨g,0,none⟩) (ln+1) cp)).run Tryz.prog B = .ok () (setBlock B m (.map aq N)):=ag B J.o;have b6:=q_ aa;have ba:=q_ ho;have C:=q_ L;have b4:=q_ hl;clear ag aa ho L hl)
 all_goals (
  go_end0;have bt:=W.o;have bl:S3<=B.heap.size:=by rw[<-I.o];exact C.o.size
  have am:w.grownBy (setBlock B m (.map es clock)) v0.ownBlock:=by
   refine⟨C.o.os.trans (q.o.os.trans j.o.os),C.o.tape.trans (q.o.tape.trans j.o.tape),C.o.output.trans (q.o.output.trans j.o.output),by show w.heap.size<=(setBlock B m _).heap.size;simp[setBlock];omega,λi hi bj=>?_⟩;by_cases a8:i=m
   ·subst a8;rw[heap_setBlock_same J.o];exact (b1.o.symm.trans (j.o.block i hi))
   ·rw[heap_setBlock_other J.o _ a8,C.o.block i (by rw[I.o];omega) bj,q.o.block i (by rw[a7.o];omega) a8];exact j.o.block i hi
  have a2:(setBlock B m (.map es clock)).ownsInts c 3 .i64 (.slice (some ⟨g,0,none⟩) (ln+1) cp) (zs++[(x:Int)]):=by
   refine⟨?_,λy hy=>?_⟩
   ·have h1:=ba.o;rw[<-ab.o]at h1 ⊢;rw[List.length_append,List.map_append];refine Turn.owns (S:=λb=>b=m) (w:=B) ⟨rfl,rfl,rfl,by simp[setBlock],λi _ hi=>heap_setBlock_other J.o _ hi⟩ h1 λk hk h=>?_;have:=(h1.lt k hk).1;omega
   ·rcases List.mem_append.1 hy with hy | hy
    ·exact a9.o.2 y hy
    ·simp at hy;subst hy;simp[Lit.wf,IntKind.min,IntKind.max,IntKind.signed,IntKind.bits];omega
  obtain⟨w5,ak,ay,_⟩:=b5.o _ _ _ am a2 (by rw[List.length_append];simp;have:=bb.o;omega) (by
   rcases b4.o with e | e
   ·exact .inl e.symm
   ·exact .inr ⟨g,rfl,by rw[e];omega⟩)
  have bi:w5=setBlock B m (.map aq N):=by have h1:=b6.o (setBlock B m (.map es clock)) (heap_setBlock_same J.o _);rw[ak]at h1;injection h1 with _ h1;rw[h1,qj_]
  subst bi;obtain⟨O,a5,M⟩:=bd.o;refine⟨rfl,⟨_,ay,λa' d' a3 Y=>?_⟩,?_⟩
  ·unfold dt_;by_cases hc:a'=a/\d'=d
   ·obtain⟨rfl,rfl⟩:=hc;rw[if_pos ⟨rfl,rfl⟩,atKey_put_same M (Io_.key (nr_ a3 Y)),rl_ a2];have h1:=O a' d' a3 Y;rw[a5,rl_ a9.o]at h1;unfold Lv_ at h1 ⊢;unfold Go.ChangeShapes.lits at h1 ⊢;rw[List.map_append,List.map_append,List.map_append,h1];rfl
   ·rw[if_neg hc,atKey_put_other (λh=>hc (Gb_ a3 Y ar.o.1 ar.o.2 h))];exact O a' d' a3 Y
  ·exact (((Turn.of_below j.o).mono (S':=λb=>b=m\/(c<=b/\gj_ w b)) (λi _ h=>.inr ⟨by omega,v2_ h⟩)).andThen q.o (λi _ h=>.inl h)).trans
     (((Turn.of_grown C.o).mono (S':=λb=>b=m\/(c<=b/\gj_ w b)) (λi _ h=>.inr ⟨(au.o i h.symm).1,v3_ a9.o.1 h.symm⟩)).trans ⟨rfl,rfl,rfl,by simp[setBlock],λi _ hi=>heap_setBlock_other J.o _ (λe=>hi (.inl e))⟩))
end
end Go.Proofs.YtefhfadjajcmkaaGreatDoor
