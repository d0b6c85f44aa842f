/- The image of triples is no graph too great for the machine. -/
import Derived.Test.YtefhfadjajcmkaaGreatDoorO7
import Derived.Test.YtefhfadjajcmkaaGreatDoorGZ
import Derived.Lib.Bytealg
import Derived.Shelf.Sort.Plain
import Derived.Shelf.GgSortFunc.Compose
import Derived.Sort.KeysCollected
import Derived.Maps.OwnRows
import Derived.WideKeyEntry
import Derived.DeepKeys4
import Derived.Laws.AppendOwnNone
set_option linter.unusedVariables false
set_option linter.unusedSimpArgs false
set_option maxRecDepth 100000
set_option maxHeartbeats 64000000
namespace Go.Proofs.YtefhfadjajcmkaaGreatDoor
open _root_.Go.Proofs.Tryz
open Go.Act renaming put→VK
open Bool renaming and_eq_true→YW
open Go.IntWalk renaming i64_in→YU
open Go.Ending renaming returned→YQ
open Go.RowKit renaming Below→XW
open Go.RowKit.Below renaming refl→XV
open Nat renaming lt_of_lt_of_le→XZ,le_refl→XK,le_trans→ZX,zero_add→VQ,lt_or_ge→VZ
open Go.Obj renaming cells→XX
open List renaming getElem?_eq_getElem→XQ,mem_of_getElem?→YZ,take_of_length_le→YJ,length_append→ZZ,length_take→UJ,eq_nil_of_length_eq_zero→UK,append_assoc→UW
open _root_.Go.Proofs.Tryz renaming prog→QW
open Go renaming World→QV,Value→XJ,heap_alloc_new→XU,bodyPost_ret→ZV
open Go.IntKind renaming i64→QU
open Option renaming some→QJ,none→QK
open Go.Lib renaming cell_of_heap→QX,frozen_of_heap→YY
open Go.Value renaming slice→QQ,string→QZ,int→QY,bool→XY,pointer→YK,tuple→ZJ
open Go.Lib (cell_of_heap)
section
open Go Go.RowKit
def LFl (w:QV) (F:Nat->Prop) (l:List g_) (s:XJ):Prop:=SlR 6 VaR w F l s/\∀b,F b->b<w.heap.size
theorem LFl.form {w:QV} {F:Nat->Prop} {l:List g_} {s:XJ} (h:LFl w F l s):∃A d,s = QQ A l.length d:=by obtain⟨⟨A,d,e,_⟩,_⟩:=h;exact⟨A,d,e⟩
theorem LFl.turn {w w':QV} {F:Nat->Prop} {l:List g_} {s:XJ} (h:LFl w F l s) {S:Nat->Prop} (ht:Turn S w w') (d:∀b,F b->¬S b):LFl w' F l s:=
 ⟨h.1.turn VaR.good ht h.2 d,λb hb=>XZ (h.2 b hb) ht.size⟩
def Mi_ (l:List g_) (w:QV) (e:Ending) (w':QV):Prop:=∃s,e = YQ s/\XW w.heap.size w w'/\LFl w' (λb=>w.heap.size<=b/\b<w'.heap.size) l s
def Mw_ (v:g_) (w:QV) (e:Ending) (w':QV):Prop:=∃s,e = YQ (.agg (c_ v s))/\XW w.heap.size w w'/\SlR 6 VaR w' (λb=>w.heap.size<=b/\b<w'.heap.size) v.list s
theorem VaR.flat {w:QV} {F F':Nat->Prop} {x:g_} {c:Array XJ} (h:VaR w F x c) (g:x.list=[]):VaR w F' x c:=by obtain⟨A,j,f,d,m⟩:=VRd.inv h;injection f with f;subst f;exact VRd.of_list d (by rw[g];exact⟨rfl,λh=>absurd h (by simp)⟩)
theorem zu_ {l:List g_} {F:Nat->Prop} {w w':QV} {e:Ending} (p:∀x,x∈l->x.list=[]) (h:t6_ 39 6 VaR F l w e w'):Mi_ l w e w':=by obtain⟨s,o,hb,d,r⟩:=h;refine⟨s,o,hb,?_,λb hb=>hb.2⟩;obtain⟨cs,h1,m,u,q⟩:=d;have h2:x_ 39 6 VaR w' (λb=>w.heap.size<=b/\b<w'.heap.size) l s:=⟨cs,h1,m,λg f=>⟨r g f,(h1.lt g f).2⟩,λi x j=>(q i x j).flat (p x (YZ j))⟩;exact h2.rd VaR.good
theorem wg_ (v:g_) {F:Nat->Prop} (A:Option Addr) (m:Nat) (w:QV) (hF:∀g,F g->g<w.heap.size) (Z:LRd w F v.list A v.list.length)
    (D:∀w',LRd w' F v.list A v.list.length->(∀g,F g->g<w'.heap.size)->Calls QW 278 #[QQ A v.list.length m] w' (Mi_ v.list w')) :
    Calls QW 222 #[.agg (c_ v (QQ A v.list.length m))] w (Mw_ v w):=by
 obtain⟨k,t,n,s,x,l⟩:=v;unfold c_;simp only[g_.kind,g_.truth,g_.num,g_.text,g_.extra,g_.list]at Z D ⊢;have M:=q_ (F_ w (XX #[QY QU k,XY t,QY QU n,QZ s,QZ x,QQ A l.length m] 39) (XX #[QY QU 0,XY false,QY QU 0,QZ ⟨#[]⟩,QZ ⟨#[]⟩,QQ QK 0 0] 39));have J:((w.alloc (XX #[QY QU k,XY t,QY QU n,QZ s,QZ x,QQ A l.length m] 39)).alloc (XX #[QY QU 0,XY false,QY QU 0,QZ ⟨#[]⟩,QZ ⟨#[]⟩,QQ QK 0 0] 39)).heap.size=w.heap.size+2:=by simp
 have B:((w.alloc (XX #[QY QU k,XY t,QY QU n,QZ s,QZ x,QQ A l.length m] 39)).alloc (XX #[QY QU 0,XY false,QY QU 0,QZ ⟨#[]⟩,QZ ⟨#[]⟩,QQ QK 0 0] 39)).heap[w.heap.size]?=QJ (XX #[QY QU k,XY t,QY QU n,QZ s,QZ x,QQ A l.length m] 39 (0,0)):=by rw[Below.heap_alloc _ _ _ (by simp)];exact XU w _
 have I:((w.alloc (XX #[QY QU k,XY t,QY QU n,QZ s,QZ x,QQ A l.length m] 39)).alloc (XX #[QY QU 0,XY false,QY QU 0,QZ ⟨#[]⟩,QZ ⟨#[]⟩,QQ QK 0 0] 39)).heap[w.heap.size+1]?=QJ (XX #[QY QU 0,XY false,QY QU 0,QZ ⟨#[]⟩,QZ ⟨#[]⟩,QQ QK 0 0] 39 (0,0)):=by have:=XU (w.alloc (XX #[QY QU k,XY t,QY QU n,QZ s,QZ x,QQ A l.length m] 39)) (XX #[QY QU 0,XY false,QY QU 0,QZ ⟨#[]⟩,QZ ⟨#[]⟩,QQ QK 0 0] 39);simpa using this
 obtain⟨z,U⟩:=a_ w.heap.size;obtain⟨W2,V⟩:=a_ ((w.alloc (XX #[QY QU k,XY t,QY QU n,QZ s,QZ x,QQ A l.length m] 39)).alloc (XX #[QY QU 0,XY false,QY QU 0,QZ ⟨#[]⟩,QZ ⟨#[]⟩,QQ QK 0 0] 39));rw[V.o]at M J B I;have HC:=q_ (D W2 (Z.under M.o hF) (λg hg=>by have:=hF g hg;have:=M.o.size;omega));rw[U.o]at M J B I;have a0:=q_ B;have a1:=q_ I;have u:=q_ J;have c5:W2.cell? ⟨z,5,QK⟩=QJ (QQ A l.length m):=QX B 5;clear Z D hF B I J;go_enter func222,ntmps222
 go_upto_region 1 with fail;rw[V.o,U.o];go_wp2_with fail;refine HC.o.mono ?_;rintro e w5 ⟨s',rfl,C,O⟩;obtain⟨A',j,rfl⟩:=O.form;have a3:=q_ O;have a2:=q_ C;have a7:z+2<=w5.heap.size:=by have:=C.size;have:=u.o;omega
 have y:=q_ ((C.block z (by have:=u.o;omega)).trans a0.o);have X:=q_ ((C.block (z+1) (by have:=u.o;omega)).trans a1.o);have d0:w5.cell? ⟨z,0,QK⟩=QJ (QY QU k):=QX y.o 0;have d5:w5.cell? ⟨z,5,QK⟩=QJ (QQ A l.length m):=QX y.o 5;have f5:w5.frozen? ⟨z,5,QK⟩=false:=YY y.o 5;have q:=heap_setCell_same w5 z 5 _ 39 (QQ A' l.length j) y.o;have d:(w5.setCell ⟨z,5,QK⟩ (QQ A' l.length j)).heap[z+1]?=_:=(Below.heap_setCell w5 ⟨z,5,QK⟩ (QQ A' l.length j) (z+1) (by simp)).trans X.o;have S:=(Turn.refl (λb=>b=z\/b=z+1) w5).setCell (p:=⟨z,5,QK⟩) (.inr (.inl rfl)) (QQ A' l.length j);obtain⟨f,W⟩:=a_ (w5.setCell ⟨z,5,QK⟩ (QQ A' l.length j));rw[W.o]at q d S;have g0:f.cell? ⟨z,0,QK⟩=QJ (QY QU k):=QX q 0;have g1:f.cell? ⟨z,1,QK⟩=QJ (XY t):=QX q 1;have g2:f.cell? ⟨z,2,QK⟩=QJ (QY QU n):=QX q 2;have g3:f.cell? ⟨z,3,QK⟩=QJ (QZ s):=QX q 3;have g4:f.cell? ⟨z,4,QK⟩=QJ (QZ x):=QX q 4;have g5:f.cell? ⟨z,5,QK⟩=QJ (QQ A' l.length j):=QX q 5;have r0:f.cell? ⟨z+1,0,QK⟩=QJ (QY QU 0):=QX d 0;have y0:f.frozen? ⟨z+1,0,QK⟩=false:=YY d 0;have r1:f.cell? ⟨z+1,1,QK⟩=QJ (XY false):=QX d 1;have y1:f.frozen? ⟨z+1,1,QK⟩=false:=YY d 1;have r2:f.cell? ⟨z+1,2,QK⟩=QJ (QY QU 0):=QX d 2;have y2:f.frozen? ⟨z+1,2,QK⟩=false:=YY d 2;have r3:f.cell? ⟨z+1,3,QK⟩=QJ (QZ ⟨#[]⟩):=QX d 3;have y3:f.frozen? ⟨z+1,3,QK⟩=false:=YY d 3;have r4:f.cell? ⟨z+1,4,QK⟩=QJ (QZ ⟨#[]⟩):=QX d 4;have y4:f.frozen? ⟨z+1,4,QK⟩=false:=YY d 4;have r5:f.cell? ⟨z+1,5,QK⟩=QJ (QQ QK 0 0):=QX d 5;have y5:f.frozen? ⟨z+1,5,QK⟩=false:=YY d 5;have a6:=q_ q;have Y:=q_ d;have a4:=q_ S;clear C O q d S c5;go_upto_region 2 with fail;rw[W.o];go_wp2_with fail;have r:((((((f.setCell ⟨z+1,0,QK⟩ (QY QU k)).setCell ⟨z+1,1,QK⟩ (XY t)).setCell ⟨z+1,2,QK⟩ (QY QU n)).setCell ⟨z+1,3,QK⟩ (QZ s)).setCell ⟨z+1,4,QK⟩ (QZ x)).setCell ⟨z+1,5,QK⟩ (QQ A' l.length j)).heap[z+1]?=QJ (XX #[QY QU k,XY t,QY QU n,QZ s,QZ x,QQ A' l.length j] 39 (0,0)):=(heap_setCell_same _ (z+1) 5 _ 39 _ (heap_setCell_same _ (z+1) 4 _ 39 _ (heap_setCell_same _ (z+1) 3 _ 39 _ (heap_setCell_same _ (z+1) 2 _ 39 _ (heap_setCell_same _ (z+1) 1 _ 39 _ (heap_setCell_same _ (z+1) 0 _ 39 _ Y.o))))));have T:Turn (λb=>b=z\/b=z+1) w5 ((((((f.setCell ⟨z+1,0,QK⟩ (QY QU k)).setCell ⟨z+1,1,QK⟩ (XY t)).setCell ⟨z+1,2,QK⟩ (QY QU n)).setCell ⟨z+1,3,QK⟩ (QZ s)).setCell ⟨z+1,4,QK⟩ (QZ x)).setCell ⟨z+1,5,QK⟩ (QQ A' l.length j)):=((((((a4.o.setCell (p:=⟨z+1,0,QK⟩) (.inr (.inr rfl)) _).setCell (p:=⟨z+1,1,QK⟩) (.inr (.inr rfl)) _).setCell (p:=⟨z+1,2,QK⟩) (.inr (.inr rfl)) _).setCell (p:=⟨z+1,3,QK⟩) (.inr (.inr rfl)) _).setCell (p:=⟨z+1,4,QK⟩) (.inr (.inr rfl)) _).setCell (p:=⟨z+1,5,QK⟩) (.inr (.inr rfl)) _);obtain⟨L,a5⟩:=a_ ((((((f.setCell ⟨z+1,0,QK⟩ (QY QU k)).setCell ⟨z+1,1,QK⟩ (XY t)).setCell ⟨z+1,2,QK⟩ (QY QU n)).setCell ⟨z+1,3,QK⟩ (QZ s)).setCell ⟨z+1,4,QK⟩ (QZ x)).setCell ⟨z+1,5,QK⟩ (QQ A' l.length j));rw[a5.o]at r T ⊢;have q0:L.cell? ⟨z+1,0,QK⟩=QJ (QY QU k):=QX r 0;have q1:L.cell? ⟨z+1,1,QK⟩=QJ (XY t):=QX r 1;have q2:L.cell? ⟨z+1,2,QK⟩=QJ (QY QU n):=QX r 2;have q3:L.cell? ⟨z+1,3,QK⟩=QJ (QZ s):=QX r 3;have q4:L.cell? ⟨z+1,4,QK⟩=QJ (QZ x):=QX r 4;have q5:L.cell? ⟨z+1,5,QK⟩=QJ (QQ A' l.length j):=QX r 5;have N:=q_ T;clear T r r0 r1 r2 r3 r4 r5 y0 y1 y2 y3 y4 y5 g0 g1 g2 g3 g4 g5 d0 d5 f5;go_wp2_with fail;refine ZV (v:=.agg #[QY QU k,XY t,QY QU n,QZ s,QZ x,QQ A' l.length j]) (by simp[results,results222,go_sem,q0,q1,q2,q3,q4,q5]) rfl ⟨QQ A' l.length j,rfl,?_,?_⟩
 ·rw[U.o];exact (M.o.trans (a2.o.mono (by have:=u.o;omega))).trans (N.o.below (λi _ h=>by omega) (by omega))
 ·have h1:=a3.o.turn N.o (λb hb h=>by have:=u.o;omega);refine h1.1.mono VaR.good λb hb=>⟨?_,?_⟩
  ·have:=u.o;have:=U.o;omega
  ·have:=N.o.size;omega
def Fp_ (v:g_) (w:QV) (e:Ending) (w':QV):Prop:=∃B cb,e = YQ (.agg (c_ v (QQ B v.list.length cb)))/\XW w.heap.size w w'/\VRd w' (λb=>w.heap.size<=b/\b<w'.heap.size) v (.agg (c_ v (QQ B v.list.length cb)))
theorem zv_ (v:g_) (m:∀x,x∈v.list->x.list=[]) (y:S_ v<=2000000) (F:Nat->Prop) (u:XJ) (w:QV) (f:∀g,F g->g<w.heap.size) (q:VRd w F v u) :
    Calls QW 222 #[u] w (Fp_ v w):=by
 obtain⟨A,d,rfl,_,o⟩:=q.inv;have hz:=dv_ v;have r:=dc_ v.list;refine (wg_ v A d w f o (λw' h1 h2=>(zt_ v.list F A _ d (by omega) w' h2 h1).mono λe w2 h=>zu_ m h)).mono ?_;rintro e w' ⟨s,rfl,hb,B,cb,rfl,j,p⟩;exact⟨B,cb,rfl,hb,VRd.of_list j p⟩
section
variable {α : Type} {R:bu_ α} {F G:Nat->Prop} {l:List α} {sz:Nat} {s:XJ} {E:Nat}
theorem g7_ {w5 w6:QV} {x:α} {c:Array XJ} {g4 c4:Nat} {cs:Nat->Array XJ} (m:R.Good) (J:∀i,i<l.length->(cs i).size=sz) (N:∀i x,l[i]?=QJ x->R w5 (λb=>F b/\s.ownBlock≠QJ b) x (cs i)) (O:R w5 G x c) (L:c.size=sz)
    (r:∀b,G b->s.ownBlock≠QJ b) (o:∀b,F b->b<w5.heap.size) (q:∀b,G b->b<w5.heap.size)
    (M:w6.ownsRow 0 E sz (QQ (QJ ⟨g4,0,QK⟩) (l.length+1) c4) (l.length+1) (R_ cs l.length++c.toList)) (D:w5.grownBy w6 s.ownBlock) (I:s.ownBlock=QJ g4\/w5.heap.size<=g4) :
    x_ E sz R w6 (λb=>F b\/G b\/b=g4) (l++[x]) (QQ (QJ ⟨g4,0,QK⟩) (l.length+1) c4):=by
 have u:(l++[x]).length=l.length+1:=by simp
 have C:∀i,i<l.length->(λi=>if i<l.length then cs i else c) i=cs i:=λi hi=>iP_ hi
 have v:∀b,F b->s.ownBlock≠QJ b->b≠g4:=λb hb h2 e=>by
  rcases I with h | h
  ·exact h2 (by rw[h,e])
  ·have:=o b hb;omega
 have B:∀b,G b->b≠g4:=λb hb e=>by
  rcases I with h | h
  ·exact r b hb (by rw[h,e])
  ·have:=q b hb;omega
 refine⟨λi=>if i<l.length then cs i else c,?_,λi hi=>?_,λg d=>?_,λi y j=>?_⟩
 ·rw[u,dt_,gf_ C,iN_ (Nat.lt_irrefl _)];exact M
 ·by_cases h:i<l.length
  ·simp only[iP_ h];exact J i h
  ·simp only[iN_ h];exact L
 ·injection d with d;exact .inr (.inr d.symm)
 ·by_cases h:i<l.length
  ·simp only[iP_ h];rw[List.getElem?_append_left h]at j;refine m.mono (m.keep (N i y j) (w':=w6) λp f=>(Turn.of_grown D).cell (o _ f.1) λe=>f.2 e.symm) λb hb=>⟨.inl hb.1,λe=>?_⟩;injection e with e;exact v b hb.1 hb.2 e.symm
  ·simp only[iN_ h];have hi:i=l.length:=by have:=c3_ j;omega
   subst hi;simp at j;subst j;refine m.mono (m.keep O (w':=w6) λp f=>(Turn.of_grown D).cell (q _ f) λe=>r _ f e.symm) λb hb=>⟨.inr (.inl hb),λe=>?_⟩;injection e with e;exact B b hb e.symm
end
theorem xd_:(Tryz.prog.info? 69).map (λi=>(i.zero,i.size,i.bytes))=QJ (QJ (.agg #[QZ ⟨#[]⟩,QY QU 0,XY false,QY QU 0,QZ ⟨#[]⟩,QZ ⟨#[]⟩,QQ QK 0 0]),7,96):=by kernel_rfl
def id_ (a b:ByteArray):Int:=Lib.compareBytes a.data.toList b.data.toList
structure ItP where
 p:J_
 A:Option Addr
 cap:Nat
instance:Inhabited ItP:=⟨⟨⟨⟨#[]⟩,.mk 0 false 0 ⟨#[]⟩ ⟨#[]⟩ []⟩,QK,0⟩⟩
def Dg_ (x:ItP):List XJ:=[QZ x.p.key,QY QU x.p.v.kind,XY x.p.v.truth,QY QU x.p.v.num,QZ x.p.v.text,QZ x.p.v.extra,QQ x.A x.p.v.list.length x.cap]
theorem w5_ (x y:ItP) (W:QV):Calls QW 224 #[.agg (Dg_ x).toArray,.agg (Dg_ y).toArray] W λe w'=>e = YQ (QY QU (id_ x.p.key y.p.key))/\∃q j,w'=Go.Sort.grow (W.drewN q) j:=by
 have g:=λf=>(Any.strings_Compare Tryz.lays106 x.p.key y.p.key f:Calls QW 225 _ f _);have d:=q_ (λf=>(g f).mono λe w' h=>(show e = YQ (QY QU (id_ x.p.key y.p.key))/\w'=f from h));clear g;generalize id_ x.p.key y.p.key=r at d ⊢;unfold Dg_;go_enter func224,ntmps224
 go_wp2_with fail;refine (d.o _).mono ?_;rintro e w' ⟨rfl,rfl⟩;go_wp2_with fail;go_ret;exact⟨rfl,0,_,by rw[Go.Sort.alloc_eq_grow,Go.Sort.alloc_eq_grow,Go.Sort.grow_grow];rfl⟩
theorem l4_ (a b:ByteArray):(id_ a b<0)=(a.data.toList<b.data.toList):=by
 unfold id_;generalize a.data.toList=x;generalize b.data.toList=y;induction x generalizing y with
 | nil=>cases y<;>simp[Lib.compareBytes]
 | cons u r g=>
  cases y with
  | nil=>simp[Lib.compareBytes]
  | cons v q=>
   simp only[Lib.compareBytes];by_cases h1:u<v
   ·simp[h1,List.cons_lt_cons_iff]
   ·by_cases h2:v<u
    ·have d:u≠v:=λe=>by subst e;exact h1 h2
     simp[h1,h2,List.cons_lt_cons_iff,d]
    ·have f:u=v:=UInt8.le_antisymm (UInt8.not_lt.1 h2) (UInt8.not_lt.1 h1);subst f;simp[h1,g]
theorem Pe_:Go.Sort.SWO (ltOf λx y:ItP=>id_ x.p.key y.p.key) where
 irrefl x:=by unfold ltOf;rw[decide_eq_false_iff_not,l4_];exact List.lt_irrefl _
 trans x y z h1 h2:=by unfold ltOf at *;rw [decide_eq_true_iff, l4_] at *;exact List.lt_trans h1 h2
 ntrans x y z h1 h2:=by unfold ltOf at *;rw [decide_eq_false_iff_not, l4_] at *;rw [List.not_lt] at *;exact List.le_trans h2 h1
theorem itP {w:QV} {F:Nat->Prop} {x:J_} {c:Array XJ} (h:PaR w F x c):∃g,Dg_ g=c.toList/\g.p=x:=by
 obtain⟨s,rfl,j⟩:=h;obtain⟨A,d,f,_,_⟩:=j.inv;injection f with f;obtain rfl:s = QQ A x.v.list.length d:=by have:=congrArg (λa:Array XJ=>a[5]?) f;simpa [c_] using this
 exact⟨⟨x,A,d⟩,rfl,rfl⟩
def zj_ (l d:List J_):Prop:=d.Perm l/\d.Pairwise (λa b=>¬id_ b.key a.key<0)
theorem Ey_ {w:QV} {F:Nat->Prop} {l:List J_} {s:XJ} (h:x_ 69 7 PaR w F l s) (f:l.length<=100000000) (o:∀b,F b->b<w.heap.size) :
    Calls QW 223 #[s,.func (.func 224) #[] #[]] w λe w'=>e = YQ (ZJ #[])/\∃d:List J_,zj_ l d/\SlR 7 PaR w' F d s/\Turn (λb=>s.ownBlock=QJ b) w w':=
 (re_ Tryz.gsortP PaR.good (by decide) isAgg69 sizeOf69 Dg_ ItP.p (λ_=>rfl) (λx v g=>by simp[Dg_]at g;rcases g with rfl | rfl | rfl | rfl | rfl | rfl | rfl<;>rfl) itP (λa b=>id_ a.key b.key) Pe_ 224 (enters_of func224 (by kernel_rfl) rfl) w5_ h f o).mono λ_ _ ⟨q,d,h1,h2,j,m⟩=>⟨q,d,⟨h1,h2⟩,j,m⟩
theorem b2_ {B:Nat} {w w':QV} (h:XW B w.drew w'):XW B w w':=⟨h.os,h.tape,h.output,h.size,h.block⟩
def vz_ (p:J_):Prop:=∀x,x∈p.v.list->x.list=[]
def Kd_ (l:List J_) (w:QV) (e:Ending) (w':QV):Prop:=
 ∃s,e = YQ s/\XW w.heap.size w w'/\∃d:List J_,zj_ l d/\SlR 7 PaR w' (λb=>w.heap.size<=b/\b<w'.heap.size) d s
theorem s8_ (l:List J_) (a0:∀p,p∈l->zf_ p/\vz_ p) (ag:l.length<=2000000) (F:Nat->Prop) (A:Option Addr) (n aq:Nat) (w:QV) (hF:∀g,F g->g<w.heap.size) (hl:SRd 7 PaR w F l A n) :
    Calls QW 154 #[QQ A n aq] w (Kd_ l w):=by
 have HL:=q_ hl;have HF:=q_ hF;have ac:=q_ a0;have U:=q_ hl.1;have b1:n<=2000000:=by rw[hl.1];exact ag
 clear hl hF a0;go_enter func154,ntmps154
 go_wp2_with fail;go_loopw [3,8] (λs3 s8 wr=>∃k:Nat,k<=n/\s8 = QY QU (k:Nat)/\Q_ (XW w.heap.size w wr)/\Q_ (x_ 69 7 PaR wr (λb=>w.heap.size<=b/\b<wr.heap.size) (l.take k) s3)) (λ_ s8 _=>n-(intOf s8).toNat)
 case atStart=>exact⟨0,by omega,rfl,q_ (XV _ _),q_ (x_.nil ..)⟩
 case round=>
  obtain⟨k,hk,rfl,hB,hO⟩:=hrel;by_cases aw:k<n
  ·obtain⟨x,hx⟩:∃x,l[k]?=QJ x:=⟨l[k]'(by rw[<-U.o];exact aw),XQ _⟩;have HX:=q_ hx;have a9:=q_ (ac.o x (YZ hx));have a2:(l.take k).length=k:=by rw[UJ];have:=U.o;omega
   obtain⟨A3,c3,Z⟩:=hO.o.form;rw[a2]at Z;subst Z;have O:=q_ a2;obtain⟨ad,s,rfl,ar,hv,c0,c1,c2,ap,c4,c5,c6⟩:=l8_ (HL.o.under PaR.good hB.o HF.o) hx;obtain⟨B,cb,M,_,_⟩:=hv.inv;injection M with M;obtain rfl:s = QQ B x.v.list.length cb:=by have:=congrArg (λa:Array XJ=>a[5]?) M;simpa [c_] using this
   have HV:=q_ hv;clear hx ar hv M a2;obtain⟨C,I⟩:=a_ x.v.list.length;rw[I.o]at c6 HV;obtain⟨z,Hz⟩:=a_ wr.heap.size;obtain⟨w5,S⟩:=a_ (wr.alloc (XX #[QZ x.key,QY QU x.v.kind,XY x.v.truth,QY QU x.v.num,QZ x.v.text,QZ x.v.extra,QQ B C cb] 69));have D:=q_ (show XW wr.heap.size wr w5 from by rw[<-S.o];exact (XV _ _).alloc (XK _) _);have d:=q_ (show w5.heap[z]?=QJ (XX #[QZ x.key,QY QU x.v.kind,XY x.v.truth,QY QU x.v.num,QZ x.v.text,QZ x.v.extra,QQ B C cb] 69 (0,0)) from by rw[<-S.o,<-Hz.o];exact XU wr _);have a7:=q_ (show w5.heap.size=z+1 from by rw[<-S.o,<-Hz.o];simp);have e1:(0:Int)<=k:=by omega
   have e2:(k:Int)<n:=by omega
   go_upto_region 5 with fail;rw[S.o,Hz.o];have a1:w.heap.size<=wr.heap.size:=hB.o.size;have a8:=q_ (zv_ x.v a9.o.2 a9.o.1.2 F _ w5.drew (λg hg=>XZ (HF.o g hg) (ZX a1 D.o.size)) ((HV.o.under D.o (λg hg=>XZ (HF.o g hg) a1)).drewN 1));unfold c_ at a8;have d0:w5.drew.cell? ⟨z,0,none⟩=some (QZ x.key):=QX d.o 0;have d1:w5.drew.cell? ⟨z,1,none⟩=some (QY QU x.v.kind):=QX d.o 1;have d2:w5.drew.cell? ⟨z,2,none⟩=some (XY x.v.truth):=QX d.o 2;have d3:w5.drew.cell? ⟨z,3,none⟩=some (QY QU x.v.num):=QX d.o 3;have d4:w5.drew.cell? ⟨z,4,none⟩=some (QZ x.v.text):=QX d.o 4;have d5:w5.drew.cell? ⟨z,5,none⟩=some (QZ x.v.extra):=QX d.o 5;have d6:w5.drew.cell? ⟨z,6,none⟩=some (QQ B C cb):=QX d.o 6;obtain⟨cs,r,V,f,q⟩:=(hO.o.turn PaR.good (Turn.of_below D.o) (λb hb=>hb.2) (λb hb h=>by obtain⟨_,h1⟩:=hb;omega));rw[O.o]at r V;have af:=q_ r;have N:=q_ (And.intro V (And.intro f q));clear c0 c1 c2 ap c4 c5 c6 r V f q;obtain⟨i0,au,ah,ai,aj⟩:=info_parts xd_;go_region_law (first | (refine step_append_lies _ rfl _ _ 70 rfl 0 69 i0 (.agg #[QZ ⟨#[]⟩,QY QU 0,XY false,QY QU 0,QZ ⟨#[]⟩,QZ ⟨#[]⟩,QQ none 0 0]) 7 96 underlying70 au ah ai aj rfl (by decide) (QQ A3 k c3) k (R_ cs k) rfl (by exact a4.o.alloc _) ⟨w6.heap.size,0,none⟩ 1 1 [QZ x.key,QY QU x.v.kind,XY x.v.truth,QY QU x.v.num,QZ x.v.text,QZ x.v.extra,QQ L C m] rfl rfl (World.news_of_block (cs:=#[QZ x.key,QY QU x.v.kind,XY x.v.truth,QY QU x.v.num,QZ x.v.text,QZ x.v.extra,QQ L C m]) (by exact NB.o)) ae.o (by omega) (by unfold maxLen;omega) (by omega) (Nat.zero_le _) (w6.heap.size+1) (by exact am.o) (λg7 c7 w7 J j aa _=>?_);have ak:=q_ J;have Y:=q_ (show w6.grownBy w7 (Value.slice A3 k c3).ownBlock from ak_ (w:=w6) (o:=XX #[QZ x.key,QY QU x.v.kind,XY x.v.truth,QY QU x.v.num,QZ x.v.text,QZ x.v.extra,QQ L C m] 69) ⟨j.os,j.tape,j.output,j.size,j.block⟩);have a5:=q_ (show (Value.slice A3 k c3).ownBlock=some g7\/g7=w6.heap.size+1 from aa);clear J j aa) | (go_simp;go_at_call 222;(with_reducible refine a8.o.mono ?_);rintro e w6 ⟨L,m,rfl,T,a3⟩;rw[I.o]at a3;unfold c_;rw[I.o];have X:=q_ T;have ao:=q_ a3;have a4:=q_ ((Turn.of_below T).owns af.o (λg hg h=>by have:=N.o.2.1 g hg;have h2:w5.heap.size<=g:=h;have:=D.o.size;omega));have b0:w6.cell? ⟨z,0,none⟩=some (QZ x.key):=QX ((T.block z (by show z<w5.heap.size;rw[a7.o];omega)).trans d.o) 0;have ae:=q_ (show ∀u∈([QZ x.key,QY QU x.v.kind,XY x.v.truth,QY QU x.v.num,QZ x.v.text,QZ x.v.extra,QQ L C m]:List XJ),u.oneCell'=true from λu M=>by simp at M;rcases M with rfl | rfl | rfl | rfl | rfl | rfl | rfl<;>rfl);have NB:=q_ (XU w6 (XX #[QZ x.key,QY QU x.v.kind,XY x.v.truth,QY QU x.v.num,QZ x.v.text,QZ x.v.extra,QQ L C m] 69));have am:=q_ (show (w6.alloc (XX #[QZ x.key,QY QU x.v.kind,XY x.v.truth,QY QU x.v.num,QZ x.v.text,QZ x.v.extra,QQ L C m] 69)).heap.size=w6.heap.size+1 by simp);clear T a3))
   all_goals (
    have w1:IntKind.i64.wrap ((k:Int)+1)=(k:Int)+1:=YU _ (by omega);go_wp2_with fail;go_roundw)
   all_goals first
    | (case measure=>simp[intOf];omega)
    | (case rel=>
        obtain⟨V,f,q⟩:=N.o;have b3:w5.heap.size<=w6.heap.size:=X.o.size;have b4:w6.heap.size<=w7.heap.size:=Y.o.size;have az:=a7.o;have hz:=Hz.o;have J:=ak.o;have j:g7<w7.heap.size:=(J.lt g7 rfl).2
        have ab:=g7_ (w5:=w6) (w6:=w7) (R:=PaR) (E:=69) (sz:=7) (F:=λb=>w.heap.size<=b/\b<wr.heap.size) (G:=λb=>w5.heap.size<=b/\b<w6.heap.size) (l:=l.take k) (x:=x) (s:=QQ A3 k c3) (c:=c1_ x (QQ L x.v.list.length m)) (g4:=g7) (c4:=c7) (cs:=cs) PaR.good
         (λi hi=>V i (by rw[O.o]at hi;exact hi)) (λi y hy=>PaR.good.keep (q i y hy) (λp W=>X.o.cell (show p.block<w5.heap.size from by have:=W.1.2;omega)))
         ⟨_,rfl,by rw[I.o];exact ao.o⟩ rfl (λb hb e=>by have:=(f b e).2;have:=hb.1;omega) (λb hb=>by have:=hb.2;omega) (λb hb=>hb.2) (by rw[O.o];unfold c1_;rw[I.o];exact J) Y.o (by rcases a5.o with e | e;exact .inl e;exact .inr (by omega))
        rw[O.o]at ab;refine⟨k+1,by omega,by go_num,q_ ?_,q_ ?_⟩
        ·exact ((hB.o.trans (D.o.mono (by omega))).trans ((b2_ X.o).mono (show w.heap.size<=w5.heap.size from by omega))).trans ((Turn.of_grown Y.o).below (λb _ hb=>(f b hb.symm).1) (by omega))
        ·rw[f_ HX.o];refine ab.mono PaR.good λb hb=>?_;rcases hb with hb | hb | hb
         ·exact⟨hb.1,by have:=hb.2;omega⟩
         ·exact⟨by have:=hb.1;omega,by have:=hb.2;omega⟩
         ·subst hb;refine⟨?_,j⟩;rcases a5.o with h | h
          ·exact (f b h).1
          ·omega)
  ·have av:k=n:=by omega
   subst av;have ay:=q_ (show l.take k=l from YJ (by rw[U.o];exact XK _));obtain⟨A3,c3,Z⟩:=hO.o.form;rw[ay.o]at hO Z;subst Z;have a6:=hO;have HS:=q_ (Ey_ a6.o (by rw[<-U.o];omega) (λb hb=>hb.2));go_wp2_with fail;refine HS.o.mono ?_;rintro e w6 ⟨rfl,l',W,q,ht⟩;have HR:=q_ (And.intro W (And.intro q ht));clear W q ht;go_wp2_with fail;go_ret;obtain⟨W,q,ht⟩:=HR.o;obtain⟨cs,r,V,f,b2⟩:=a6.o;refine⟨_,rfl,hB.o.trans (ht.below (λi _ hi=>(f i hi).1) hB.o.size),l',W,q.mono PaR.good (λb hb=>⟨hb.1,XZ hb.2 ht.size⟩)⟩
end
section
open Go Go.RowKit Go.Shelf Go.Sort Go.Proofs
theorem vn_ {w:QV} {g n:Nat} {d:Array (List UInt8)} {os:Array Obj}:Turn (λb=>b=g) w (grow (putRow encStr (Sort.ahead w n) g 0 d) os):=by refine⟨rfl,rfl,rfl,by simp,λi hi f=>?_⟩;rw[heap_grow_old _ _ (by simpa using hi)];have:g≠i:=λe=>f e.symm;simp[putRow,mapBlock,Sort.ahead,Array.getElem?_modify,this]
def F3_ (l d:List ByteArray):Prop:=d.Perm l/\d.Pairwise (λa b=>¬id_ b a<0)
theorem u1_ {w:QV} {F:Nat->Prop} {l:List ByteArray} {s:XJ} (h:x_ 9 1 TxR w F l s) (V:l.length<=100000000) :
    Calls QW 153 #[s] w λe w'=>e = YQ (ZJ #[])/\∃N:List ByteArray,F3_ l N/\SlR 1 TxR w' F N s/\Turn (λb=>s.ownBlock=QJ b) w w':=by
 obtain⟨cs,p,T,D,W⟩:=h;rcases p.2 with⟨B,h0⟩ | ⟨b,u,Y,B,_,hb,v,U,Z,S⟩
 ·subst B;have M:l=[]:=UK h0;subst M;refine (Any.slices_Sort_string_none Tryz.lays190 QK 0 w).mono λe w' ⟨y,q⟩=>⟨y,[],⟨List.Perm.refl _,List.Pairwise.nil⟩,?_,?_⟩
  ·rw[q];exact SlR.nil ..
  ·rw[q];exact Turn.refl _ _
 ·subst B;have g:=b_ hb;have L:(l.map λs=>s.data.toList).toArray.size=l.length:=by simp
  have I:Holds encStr w b 0 (l.map λs=>s.data.toList).toArray:=by intro j o;rw[L]at o;refine⟨?_,by simp[World.frozen?,hb]⟩;have h2:=p.cellAt j (by omega);have C:=cr_ T o (show 0<1 by omega);rw[Nat.mul_one,Nat.add_zero]at C;rw[C,W j _ (XQ o)]at h2;rw[VQ,h2,getElem!_pos _ j (by simpa using o)];simp[encStr]
  have m:=Any.slices_Sort_string Tryz.lays190 b 0 u (l.map λs=>s.data.toList) w I g (by simp;omega);rw[List.length_map]at m;refine m.mono λe w' ⟨y,n,os,q⟩=>⟨y,((l.map λs=>s.data.toList).mergeSort leB).map rf_,⟨?_,?_⟩,?_,?_⟩
  ·refine ((List.mergeSort_perm _ _).map rf_).trans (List.Perm.of_eq ?_);rw[List.map_map];exact (List.map_congr_left (λx _=>by simp[rf_])).trans (List.map_id _)
  ·rw[List.pairwise_map];have X : ∀ a b c : List UInt8, leB a b = true -> leB b c = true -> leB a c = true := λa b c h1 h2 => by simp only [leB, decide_eq_true_eq] at *; exact List.le_trans h1 h2
   have O:∀a b:List UInt8,(leB a b || leB b a)=true:=λa b=>by simp only[leB,Bool.or_eq_true,decide_eq_true_eq];exact List.le_total a b
   refine (List.pairwise_mergeSort X O _).imp fun {a b} h=>?_;rw[l4_];simp only[leB,decide_eq_true_eq]at h;simpa [rf_,List.not_lt] using h
  ·have f:((l.map λs=>s.data.toList).mergeSort leB).length=l.length:=by rw[List.length_mergeSort,List.length_map]
   have J:Holds encStr w' b 0 ((l.map λs=>s.data.toList).mergeSort leB).toArray:=by rw[q];exact holds_sortWorld encStr w b 0 n _ _ os g I (by simp)
   refine⟨QJ ⟨b,0,QK⟩,u,by simp,by simp;exact v,by simp,λ_=>⟨_,rfl,D b rfl,λi x r=>⟨#[QZ x],rfl,λj o=>?_,rfl⟩⟩⟩;have d:=c3_ r;rw[List.length_map,f]at d;obtain rfl:j=0:=by omega
   have h2:=(J i (by simpa [f] using d)).1;rw[List.getElem?_map,XQ (by rw[f];exact d)]at r;injection r with r;subst r;rw[Addr.add_lit,Nat.mul_one,Nat.add_zero,h2,getElem!_pos _ i (by simpa [f] using d)];simp[encStr,rf_]
  ·rw[q];exact vn_.mono λi _ hi=>by rw[hi];rfl
def kb_ (n n':i_):Prop:=n'.id=n.id/\F3_ n.labels n'.labels/\zj_ n.props n'.props
def M5_ (n:i_) (w:QV) (e:Ending) (w':QV):Prop:=
 ∃c n',e = YQ (.agg c)/\XW w.heap.size w w'/\kb_ n n'/\NoR w' (λb=>w.heap.size<=b/\b<w'.heap.size) n' c
def ka_ (e d:l_):Prop:=d.id=e.id/\d.src=e.src/\d.dst=e.dst/\d.type=e.type/\zj_ e.props d.props
def Mx_ (x:l_) (w:QV) (e:Ending) (w':QV):Prop:=
 ∃c d,e = YQ (.agg c)/\XW w.heap.size w w'/\ka_ x d/\EdR w' (λb=>w.heap.size<=b/\b<w'.heap.size) d c
def rm_ (n:i_):Prop:=n.labels.length<=2000000/\n.props.length<=2000000/\(∀s,s∈n.labels->s.size<=2000000)/\∀p,p∈n.props->zf_ p
def Fu_ (n:i_):Prop:=∀p,p∈n.props->vz_ p
def My_ (x:l_):Prop:=x.type.size<=2000000/\x.props.length<=2000000/\∀p,p∈x.props->zf_ p
def Ft_ (x:l_):Prop:=∀p,p∈x.props->vz_ p
theorem x_.tx {w:QV} {F F':Nat->Prop} {l:List ByteArray} {s:XJ} {E:Nat} (h:x_ E 1 TxR w F l s) (f:∀g,s.ownBlock=QJ g->F' g):x_ E 1 TxR w F' l s:=by obtain⟨cs,h1,h2,_,d⟩:=h;exact⟨cs,h1,h2,f,d⟩
theorem xw_ (n:i_) (Y:rm_ n) (a5:Fu_ n) (F:Nat->Prop) (c:Array XJ) (w:QV) (hF:∀g,F g->g<w.heap.size) (hn:NoR w F n c) :
    Calls QW 91 #[.agg c] w (M5_ n w):=by
 obtain⟨L,P,rfl,⟨A1,c1,rfl,b9,ao⟩,T,X,rfl,ba,ap⟩:=hn;have HF:=q_ hF;have ai:=q_ ao;have aj:=q_ ap;have a7:=q_ Y;have af:=q_ a5;obtain⟨id,Q_⟩:=a_ n.id;rw[Q_.o];obtain⟨d,a3⟩:=a_ n.labels.length;obtain⟨m2,b7⟩:=a_ n.props.length;rw[a3.o]at ai ⊢;rw[b7.o]at aj ⊢;have bh:d<=2000000:=by rw[<-a3.o];exact Y.1
 clear hF ao ap Y a5 b9 ba;obtain⟨z,m⟩:=a_ w.heap.size;obtain⟨y,D⟩:=a_ ((w.alloc (XX #[QY QU id,QQ A1 d c1,QQ T m2 X] 72)).alloc (XX #[QY QU 0,QQ QK 0 0,QQ QK 0 0] 72));have a0:=q_ (show XW w.heap.size w y from by rw[<-D.o];exact F_ w _ _);have j:=q_ (show y.heap.size=z+2 from by rw[<-D.o,<-m.o];simp);have ah:=q_ (show y.heap[z]?=QJ (XX #[QY QU id,QQ A1 d c1,QQ T m2 X] 72 (0,0)) from by rw[<-D.o,<-m.o,Below.heap_alloc _ _ _ (by simp)];exact XU w _);have b2:=q_ (show y.heap[z+1]?=QJ (XX #[QY QU 0,QQ QK 0 0,QQ QK 0 0] 72 (0,0)) from by rw[<-D.o,<-m.o];have:=XU (w.alloc (XX #[QY QU id,QQ A1 d c1,QQ T m2 X] 72)) (XX #[QY QU 0,QQ QK 0 0,QQ QK 0 0] 72);simpa using this);have HC:=q_ (zs_ n.labels F A1 d c1 (by omega) y (λg hg=>by have:=HF.o g hg;have:=a0.o.size;omega) (ai.o.under TxR.good a0.o HF.o));have b1:y.cell? ⟨z,1,QK⟩=QJ (QQ A1 d c1):=QX ah.o 1;go_enter func91,ntmps91
 go_upto_region 1 with fail;rw[D.o,m.o];go_wp2_with fail;refine HC.o.mono ?_;rintro e r ⟨s3,rfl,I,N,ad⟩;obtain⟨A3,c3,rfl⟩:=N.form;rw[a3.o]at N ad ⊢;have b0:=q_ I;have b3:=q_ (N.tx (F':=λb=>y.heap.size<=b/\b<r.heap.size) (λg hg=>⟨ad g hg,by obtain⟨cs,h1,_⟩:=N;exact (h1.lt g hg).2⟩));have U:=q_ ((I.block z (by rw[j.o];omega)).trans ah.o);have au:=q_ ((I.block (z+1) (by rw[j.o];omega)).trans b2.o);have bi:z+2<=r.heap.size:=by have:=I.size;have:=j.o;omega
 clear I N ad b1;have d1:r.cell? ⟨z,1,QK⟩=QJ (QQ A1 d c1):=QX U.o 1;have f1:r.frozen? ⟨z,1,QK⟩=false:=YY U.o 1;go_upto_region 2 with fail;obtain⟨w4,aa⟩:=a_ (r.setCell ⟨z,1,QK⟩ (QQ A3 d c3));have a2:=q_ (show Turn (λb=>b=z) r w4 from by rw[<-aa.o];exact (Turn.refl (λb=>b=z) r).setCell (p:=⟨z,1,QK⟩) (.inr rfl) _);have a8:=q_ (show w4.heap[z]?=QJ (XX #[QY QU id,QQ A3 d c3,QQ T m2 X] 72 (0,0)) from by rw[<-aa.o];exact heap_setCell_same r z 1 _ _ _ U.o);have av:=q_ ((a2.o.block (z+1) (by omega) (by omega)).trans au.o);have ak:=q_ (b3.o.turn TxR.good a2.o (λb hb=>hb.2) (λb hb e=>by have:=hb.1;have:=j.o;omega));have HS:=q_ (u1_ ak.o (by rw[a3.o];omega));rw[aa.o];have g1:w4.cell? ⟨z,1,QK⟩=QJ (QQ A3 d c3):=QX a8.o 1;clear d1 f1;go_wp2_with fail;refine HS.o.mono ?_;rintro e w5 ⟨rfl,labels,ae,aq,u⟩;have q:∀b,(Value.slice A3 d c3).ownBlock=QJ b->y.heap.size<=b:=λb hb=>by obtain⟨cs,_,_,b8,_⟩:=ak.o;exact (b8 b hb).1
 have bf:=q_ q;have az:=q_ ae;have b4:=q_ aq;have bg:=q_ u;have bb:r.heap.size<=w4.heap.size:=a2.o.size;have bc:w4.heap.size<=w5.heap.size:=u.size;have a9:=q_ ((u.block z (by omega) (λh=>by have:=q z h;have:=j.o;omega)).trans a8.o);have aw:=q_ ((u.block (z+1) (by omega) (λh=>by have:=q (z+1) h;have:=j.o;omega)).trans av.o)
 have a1:=q_ (show XW w.heap.size w w5 from
  ((a0.o.trans (b0.o.mono a0.o.size)).trans (a2.o.below (λi _ hi=>by have:=m.o;omega) (by have:=m.o;omega))).trans (u.below (λi _ hi=>by have:=q i hi;have:=j.o;have:=m.o;omega) (by have:=m.o;omega)))
 have HP:=q_ (s8_ n.props (λp Z=>⟨a7.o.2.2.2 p Z,af.o p Z⟩) a7.o.2.1 F T m2 X w5 (λg hg=>XZ (HF.o g hg) a1.o.size) (aj.o.under PaR.good a1.o HF.o));have g2:w5.cell? ⟨z,2,QK⟩=QJ (QQ T m2 X):=QX a9.o 2;clear ae aq u q g1;go_wp2_with fail;refine HP.o.mono ?_;rintro e w6 ⟨s6,rfl,J,props,ar,x,B,rfl,M,O⟩;obtain⟨S,a4⟩:=a_ props.length;rw[a4.o]at O M ⊢;have ag:=q_ J;have b6:=q_ ar;have b5:=q_ (And.intro M O);have bd:w5.heap.size<=w6.heap.size:=J.size;have V:=q_ ((J.block z (by omega)).trans a9.o);have ay:=q_ ((J.block (z+1) (by omega)).trans aw.o);have g2:w6.cell? ⟨z,2,QK⟩=QJ (QQ T m2 X):=QX V.o 2;have f2:w6.frozen? ⟨z,2,QK⟩=false:=YY V.o 2;clear J ar M O;go_upto_region 4 with fail;obtain⟨w7,ab⟩:=a_ (w6.setCell ⟨z,2,QK⟩ (QQ x S B));have am:=q_ (show Turn (λb=>b=z) w6 w7 from by rw[<-ab.o];exact (Turn.refl (λb=>b=z) w6).setCell (p:=⟨z,2,QK⟩) (.inr rfl) _);have W:=q_ (show w7.heap[z]?=QJ (XX #[QY QU id,QQ A3 d c3,QQ x S B] 72 (0,0)) from by rw[<-ab.o];exact heap_setCell_same w6 z 2 _ _ _ V.o);have f:=q_ ((am.o.block (z+1) (by omega) (by omega)).trans ay.o);rw[ab.o];have g0:w7.cell? ⟨z,0,QK⟩=QJ (QY QU id):=QX W.o 0;have g1:w7.cell? ⟨z,1,QK⟩=QJ (QQ A3 d c3):=QX W.o 1;have g2:w7.cell? ⟨z,2,QK⟩=QJ (QQ x S B):=QX W.o 2;have r0:w7.cell? ⟨z+1,0,QK⟩=QJ (QY QU 0):=QX f.o 0;have y0:w7.frozen? ⟨z+1,0,QK⟩=false:=YY f.o 0;have r1:w7.cell? ⟨z+1,1,QK⟩=QJ (QQ QK 0 0):=QX f.o 1;have y1:w7.frozen? ⟨z+1,1,QK⟩=false:=YY f.o 1;have r2:w7.cell? ⟨z+1,2,QK⟩=QJ (QQ QK 0 0):=QX f.o 2;have y2:w7.frozen? ⟨z+1,2,QK⟩=false:=YY f.o 2;go_wp2_with fail;obtain⟨w9,ac⟩:=a_ (((w7.setCell ⟨z+1,0,QK⟩ (QY QU id)).setCell ⟨z+1,1,QK⟩ (QQ A3 d c3)).setCell ⟨z+1,2,QK⟩ (QQ x S B));have a6:w9.heap[z+1]?=QJ (XX #[QY QU id,QQ A3 d c3,QQ x S B] 72 (0,0)):=by rw[<-ac.o];exact heap_setCell_same _ (z+1) 2 _ _ _ (heap_setCell_same _ (z+1) 1 _ _ _ (heap_setCell_same _ (z+1) 0 _ _ _ f.o))
 have C:=q_ (show Turn (λb=>b=z\/b=z+1) w6 w9 from by rw[<-ac.o];exact (((am.o.mono (S':=λb=>b=z\/b=z+1) (λi _ h=>.inl h)).setCell (p:=⟨z+1,0,QK⟩) (.inr (.inr rfl)) _).setCell (p:=⟨z+1,1,QK⟩) (.inr (.inr rfl)) _).setCell (p:=⟨z+1,2,QK⟩) (.inr (.inr rfl)) _);rw[ac.o];have q0:w9.cell? ⟨z+1,0,QK⟩=QJ (QY QU id):=QX a6 0;have q1:w9.cell? ⟨z+1,1,QK⟩=QJ (QQ A3 d c3):=QX a6 1;have q2:w9.cell? ⟨z+1,2,QK⟩=QJ (QQ x S B):=QX a6 2;clear a6 r0 r1 r2 y0 y1 y2 g0 g1 g2 f2;go_wp2_with fail;refine ZV (v:=.agg #[QY QU id,QQ A3 d c3,QQ x S B]) (by simp[results,results91,go_sem,q0,q1,q2]) rfl ⟨_,⟨id,labels,props⟩,rfl,?_,⟨Q_.o.symm,az.o,b6.o⟩,_,_,rfl,?_,?_⟩
 ·exact (a1.o.trans (ag.o.mono a1.o.size)).trans (C.o.below (λi _ h=>by have:=m.o;omega) (by have:=m.o;omega))
 ·have hk:∀p:Addr,y.heap.size<=p.block/\p.block<r.heap.size->w9.cell? p=w5.cell? p:=λp Z=>
    (C.o.cell (by omega) (λh=>by have:=Z.1;have:=j.o;omega)).trans (ag.o.cell (by omega))
  refine SlR.mono TxR.good (SlR.keep TxR.good b4.o hk) λb hb=>⟨?_,?_⟩
  ·have:=hb.1;have:=j.o;have:=m.o;omega
  ·have:=hb.2;have:=C.o.size;omega
 ·obtain⟨M,O⟩:=b5.o
  have hk:∀p:Addr,w5.heap.size<=p.block/\p.block<w6.heap.size->w9.cell? p=w6.cell? p:=λp Z=>
   C.o.cell Z.2 (λh=>by have:=Z.1;omega)
  refine SlR.mono PaR.good (SlR.keep (s:=QQ x S B) PaR.good ⟨x,B,by rw[a4.o],by rw[a4.o];exact M,by rw[a4.o];exact O⟩ hk) λb hb=>⟨?_,?_⟩
  ·have:=hb.1;have:=m.o;omega
  ·have:=hb.2;have:=C.o.size;omega
theorem wq_ (x:l_) (a4:My_ x) (T:Ft_ x) (F:Nat->Prop) (c:Array XJ) (w:QV) (hF:∀g,F g->g<w.heap.size) (hn:EdR w F x c) :
    Calls QW 93 #[.agg c] w (Mx_ x w):=by
 obtain⟨P,rfl,U,V,rfl,ah,aa⟩:=hn;have HF:=q_ hF;have a7:=q_ aa;have X:=q_ a4;have a5:=q_ T;obtain⟨id,Q_⟩:=a_ x.id;obtain⟨src,a2⟩:=a_ x.src;obtain⟨dst,a1⟩:=a_ x.dst;obtain⟨f,a3⟩:=a_ x.type;obtain⟨W,a9⟩:=a_ x.props.length;rw[a9.o]at a7;rw[Q_.o,a2.o,a1.o,a3.o,a9.o];clear hF aa a4 T ah;obtain⟨z,N⟩:=a_ w.heap.size;obtain⟨B,y⟩:=a_ ((w.alloc (XX #[QY QU id,QY QU src,QY QU dst,QZ f,QQ U W V] 74)).alloc (XX #[QY QU 0,QY QU 0,QY QU 0,QZ ⟨#[]⟩,QQ QK 0 0] 74));have O:=q_ (show XW w.heap.size w B from by rw[<-y.o];exact F_ w _ _);have m:=q_ (show B.heap.size=z+2 from by rw[<-y.o,<-N.o];simp);have a6:=q_ (show B.heap[z]?=QJ (XX #[QY QU id,QY QU src,QY QU dst,QZ f,QQ U W V] 74 (0,0)) from by rw[<-y.o,<-N.o,Below.heap_alloc _ _ _ (by simp)];exact XU w _);have ae:=q_ (show B.heap[z+1]?=QJ (XX #[QY QU 0,QY QU 0,QY QU 0,QZ ⟨#[]⟩,QQ QK 0 0] 74 (0,0)) from by rw[<-y.o,<-N.o];have:=XU (w.alloc (XX #[QY QU id,QY QU src,QY QU dst,QZ f,QQ U W V] 74)) (XX #[QY QU 0,QY QU 0,QY QU 0,QZ ⟨#[]⟩,QQ QK 0 0] 74);simpa using this);have HP:=q_ (s8_ x.props (λp hp=>⟨X.o.2.2 p hp,a5.o p hp⟩) X.o.2.1 F U W V B (λg hg=>by have:=HF.o g hg;have:=O.o.size;omega) (a7.o.under PaR.good O.o HF.o));have b4:B.cell? ⟨z,4,QK⟩=QJ (QQ U W V):=QX a6.o 4;go_enter func93,ntmps93
 go_upto_region 1 with fail;rw[y.o,N.o];go_wp2_with fail;refine HP.o.mono ?_;rintro e w6 ⟨s6,rfl,C,props,ab,r,u,rfl,D,I⟩;obtain⟨J,S⟩:=a_ props.length;rw[S.o]at I D ⊢;have ad:=q_ C;have ag:=q_ ab;have af:=q_ (And.intro D I);have ai:B.heap.size<=w6.heap.size:=C.size;have M:=q_ ((C.block z (by rw[m.o];omega)).trans a6.o);have ac:=q_ ((C.block (z+1) (by rw[m.o];omega)).trans ae.o);have g4:w6.cell? ⟨z,4,QK⟩=QJ (QQ U W V):=QX M.o 4;have f4:w6.frozen? ⟨z,4,QK⟩=false:=YY M.o 4;clear C ab D I b4;go_upto_region 2 with fail;obtain⟨w7,Z⟩:=a_ (w6.setCell ⟨z,4,QK⟩ (QQ r J u));have a8:=q_ (show Turn (λb=>b=z) w6 w7 from by rw[<-Z.o];exact (Turn.refl (λb=>b=z) w6).setCell (p:=⟨z,4,QK⟩) (.inr rfl) _);have j:=q_ (show w7.heap[z]?=QJ (XX #[QY QU id,QY QU src,QY QU dst,QZ f,QQ r J u] 74 (0,0)) from by rw[<-Z.o];exact heap_setCell_same w6 z 4 _ _ _ M.o);have d:=q_ ((a8.o.block (z+1) (by have:=m.o;omega) (by omega)).trans ac.o);rw[Z.o];have g0:w7.cell? ⟨z,0,QK⟩=QJ (QY QU id):=QX j.o 0;have g1:w7.cell? ⟨z,1,QK⟩=QJ (QY QU src):=QX j.o 1;have g2:w7.cell? ⟨z,2,QK⟩=QJ (QY QU dst):=QX j.o 2;have g3:w7.cell? ⟨z,3,QK⟩=QJ (QZ f):=QX j.o 3;have r0:w7.cell? ⟨z+1,0,QK⟩=QJ (QY QU 0):=QX d.o 0;have y0:w7.frozen? ⟨z+1,0,QK⟩=false:=YY d.o 0;have r1:w7.cell? ⟨z+1,1,QK⟩=QJ (QY QU 0):=QX d.o 1;have y1:w7.frozen? ⟨z+1,1,QK⟩=false:=YY d.o 1;have r2:w7.cell? ⟨z+1,2,QK⟩=QJ (QY QU 0):=QX d.o 2;have y2:w7.frozen? ⟨z+1,2,QK⟩=false:=YY d.o 2;have r3:w7.cell? ⟨z+1,3,QK⟩=QJ (QZ ⟨#[]⟩):=QX d.o 3;have y3:w7.frozen? ⟨z+1,3,QK⟩=false:=YY d.o 3;have r4:w7.cell? ⟨z+1,4,QK⟩=QJ (QQ QK 0 0):=QX d.o 4;have y4:w7.frozen? ⟨z+1,4,QK⟩=false:=YY d.o 4;clear g4 f4;have g4:w7.cell? ⟨z,4,QK⟩=QJ (QQ r J u):=QX j.o 4;go_wp2_with fail;obtain⟨L,a0⟩:=a_ ((((((w7.setCell ⟨z+1,0,QK⟩ (QY QU id)).setCell ⟨z+1,1,QK⟩ (QY QU src)).setCell ⟨z+1,2,QK⟩ (QY QU dst)).setCell ⟨z+1,3,QK⟩ (QZ f)).setCell ⟨z+1,4,QK⟩ (QQ r J u)))
 have q:L.heap[z+1]?=QJ (XX #[QY QU id,QY QU src,QY QU dst,QZ f,QQ r J u] 74 (0,0)):=by rw[<-a0.o];exact (heap_setCell_same _ (z+1) 4 _ _ _ (heap_setCell_same _ (z+1) 3 _ _ _ (heap_setCell_same _ (z+1) 2 _ _ _ (heap_setCell_same _ (z+1) 1 _ _ _ (heap_setCell_same _ (z+1) 0 _ _ _ d.o)))))
 have Y:=q_ (show Turn (λb=>b=z\/b=z+1) w6 L from by rw[<-a0.o];exact ((((((a8.o.mono (S':=λb=>b=z\/b=z+1) (λi _ h=>.inl h)).setCell (p:=⟨z+1,0,QK⟩) (.inr (.inr rfl)) _).setCell (p:=⟨z+1,1,QK⟩) (.inr (.inr rfl)) _).setCell (p:=⟨z+1,2,QK⟩) (.inr (.inr rfl)) _).setCell (p:=⟨z+1,3,QK⟩) (.inr (.inr rfl)) _).setCell (p:=⟨z+1,4,QK⟩) (.inr (.inr rfl)) _));rw[a0.o];have q0:L.cell? ⟨z+1,0,QK⟩=QJ (QY QU id):=QX q 0;have q1:L.cell? ⟨z+1,1,QK⟩=QJ (QY QU src):=QX q 1;have q2:L.cell? ⟨z+1,2,QK⟩=QJ (QY QU dst):=QX q 2;have q3:L.cell? ⟨z+1,3,QK⟩=QJ (QZ f):=QX q 3;have q4:L.cell? ⟨z+1,4,QK⟩=QJ (QQ r J u):=QX q 4;clear q r0 y0 g0 r1 y1 g1 r2 y2 g2 r3 y3 g3 r4 y4 g4;go_wp2_with fail;refine ZV (v:=.agg #[QY QU id,QY QU src,QY QU dst,QZ f,QQ r J u]) (by simp[results,results93,go_sem,q0,q1,q2,q3,q4]) rfl ⟨_,⟨id,src,dst,f,props⟩,rfl,?_,⟨Q_.o.symm,a2.o.symm,a1.o.symm,a3.o.symm,ag.o⟩,_,rfl,?_⟩
 ·exact (O.o.trans (ad.o.mono O.o.size)).trans (Y.o.below (λi _ h=>by have:=N.o;omega) (by have:=N.o;have:=m.o;omega))
 ·obtain⟨D,I⟩:=af.o
  have hk:∀p:Addr,B.heap.size<=p.block/\p.block<w6.heap.size->L.cell? p=w6.cell? p:=λp hp=>
   Y.o.cell hp.2 (λh=>by have:=hp.1;have:=m.o;omega)
  refine SlR.mono PaR.good (SlR.keep (s:=QQ r J u) PaR.good ⟨r,u,by rw[S.o],by rw[S.o];exact D,by rw[S.o];exact I⟩ hk) λb hb=>⟨?_,?_⟩
  ·have:=hb.1;have:=N.o;have:=m.o;omega
  ·have:=hb.2;have:=Y.o.size;omega
end
section
open Go Go.RowKit Go.Maps Go.WideMaps Go.WideElems Go.MapKept Go.ChangeMaps
theorem w7_ {es:List MapEntry} (g:es.Pairwise λx y=>x.key≠y.key) {i j:Nat} {a b:MapEntry} (hi:es[i]?=QJ a) (m:es[j]?=QJ b) (h:a.key=b.key):i=j:=by
 obtain⟨d,rfl⟩:=List.getElem?_eq_some_iff.1 hi;obtain⟨f,rfl⟩:=List.getElem?_eq_some_iff.1 m;rw[List.pairwise_iff_getElem]at g;rcases Nat.lt_trichotomy i j with h1 | h1 | h1
 ·exact absurd h (g i j d f h1)
 ·exact h1
 ·exact absurd h.symm (g j i f d h1)
section
variable {H:Type} {P:Program} {t k e:TypeId} {R:XJ->Option (DataW H×List MemPlace)} {b:Nat} {es:Array MapEntry} {clock:Nat}
theorem Dj_ (K:Keyed P k) (ht:P.underlying t=QJ (.map k e)) {z:XJ} (hz:∀u:QV,(zeroValue e).run P u = .ok z u) (F:Fit P k R es clock) {key:XJ} {W:Lit} (f:keyOf P k key=QJ W) (w:QV) (hb:w.heap[b]?=QJ (.map es clock)) :
    ∃(O:XJ) (st:Nat) (es1:Array MapEntry) (clock1:Nat),(Instr.mapEntry t (.map (QJ b)) key).run P w = .ok (ZJ #[O,goInt st]) (setBlock w b (.map es1 clock1)) /\
     (∀d:QV,d.heap[b]?=QJ (.map es clock)->(Instr.lookup t (.map (QJ b)) key false).run P d = .ok O d) /\
     ∀val:XJ,∃D p,(∀w2:QV,w2.heap[b]?=QJ (.map es1 clock1)->(Instr.entryStore t (.map (QJ b)) (goInt st) val).run P w2 = .ok () (setBlock w2 b (.map D p))) /\
      ∀d:QV,d.heap[b]?=QJ (.map es clock)->(Instr.mapUpdate t (.map (QJ b)) key val).run P d = .ok () (setBlock d b (.map D p)):=by
 obtain⟨X,N,_⟩:=F.stamped;have U:es.toList.Pairwise (λx y=>x.key≠y.key):=((stamped_iff es clock).1 F.stamped).2.2;rcases K.find w f es.toList F.keys with⟨h1,h2⟩ | ⟨j,e0,h1,h2,B⟩
 ·have h:∀d:QV,(Instr.findKey k key es.toList).run P d = .ok QK d:=λd=>by
    rcases K.find d f es.toList F.keys with⟨J,_⟩ | ⟨j,e0,_,o,L⟩
    ·exact J
    ·exact absurd L (h2 e0 (YZ o))
  refine⟨z,clock,es.push ⟨key,z,clock⟩,clock+1,?_,λd g=>?_,λval=>⟨es.push ⟨key,val,clock⟩,clock+1,λw2 q=>?_,λd g=>?_⟩⟩
  ·simp[Instr.mapEntry,run_underlying ht,MapKept.run_getObj_map hb,K.check w false f,h1,hz,MapKept.run_setObj_map _ hb,Result.andThen,setBlock]
  ·simp[Instr.lookup,run_underlying ht,MapKept.run_getObj_map g,K.check d _ f,h d,hz,Result.andThen]
  ·have r:(es.push ⟨key,z,clock⟩).findIdx? (λe=>((e.born:Nat):Int)==((clock:Nat):Int))=QJ es.size:=by rw[findIdx_arr];have:=findIdx_born (l:=(es.push ⟨key,z,clock⟩).toList) (j:=es.size) (e0:=⟨key,z,clock⟩) (by simp only[Array.toList_push,List.map_append,List.map_cons,List.map_nil];refine List.nodup_append.2 ⟨N,by simp,λa S c T Z=>?_⟩;simp only[List.mem_singleton]at T;obtain⟨x,V,rfl⟩:=List.mem_map.1 S;have:=X x V;omega) (by simp);exact this
   have v:(es.push ⟨key,z,clock⟩).modify es.size (λe=>{ e with val:=val })=es.push ⟨key,val,clock⟩:=by apply Array.ext';rw[Array.toList_modify,Array.toList_push,Array.toList_push,<-Array.length_toList,modify_last]
   simp[Instr.entryStore,MapKept.run_getObj_map q,asInt,asIntOf,goInt,r,v,MapKept.run_setObj_map _ q,Result.andThen,setBlock]
  ·simp[Instr.mapUpdate,run_underlying ht,MapKept.run_getObj_map g,K.check d false f,h d,MapKept.run_setObj_map _ g,Result.andThen,setBlock]
 ·have M:es[j]?=QJ e0:=by simpa using h2
  have m:∀d:QV,(Instr.findKey k key es.toList).run P d = .ok (QJ (j,e0.val)) d:=λd=>by
   rcases K.find d f es.toList F.keys with⟨_,o⟩ | ⟨j',Y,J,o,L⟩
   ·exact absurd B (o e0 (YZ h2))
   ·obtain rfl:=w7_ U h2 o (by rw[B,L]);rw[h2]at o;injection o with o;rw[o];exact J
  have C:es.modify j (λe=>{ e with key:=key })=es:=by
   apply Array.ext';rw[Array.toList_modify,modify_eq_set _ _ _ _ h2];have:({ e0 with key:=key }:MapEntry)=e0:=by rw[<-B]
   rw[this];exact set_self _ _ _ h2
  refine⟨e0.val,e0.born,es,clock,?_,λd g=>?_,λval=>⟨es.modify j (λI=>{ I with key:=key,val:=val }),clock,λw2 q=>?_,λd g=>?_⟩⟩
  ·simp[Instr.mapEntry,run_underlying ht,MapKept.run_getObj_map hb,K.check w false f,h1,M,B,K.stays w f,C,MapKept.run_setObj_map _ hb,Result.andThen,setBlock]
  ·simp[Instr.lookup,run_underlying ht,MapKept.run_getObj_map g,K.check d _ f,m d,Result.andThen]
  ·have r:es.findIdx? (λe=>((e.born:Nat):Int)==((e0.born:Nat):Int))=QJ j:=by rw[findIdx_arr];exact findIdx_born N h2
   have v:es.modify j (λe=>{ e with val:=val })=es.modify j (λI=>{ I with key:=key,val:=val }):=by apply Array.ext';rw[Array.toList_modify,Array.toList_modify,modify_eq_set _ _ _ _ h2,modify_eq_set _ _ _ _ h2,<-B]
   simp[Instr.entryStore,MapKept.run_getObj_map q,asInt,asIntOf,goInt,r,v,MapKept.run_setObj_map _ q,Result.andThen,setBlock]
  ·simp[Instr.mapUpdate,run_underlying ht,MapKept.run_getObj_map g,K.check d false f,m d,M,B,K.stays d f,MapKept.run_setObj_map _ g,Result.andThen,setBlock]
end
theorem H7_:laidOutB QW=true:=by kernel_rfl
theorem Ll_:Keyed QW 165:=Keyed.of_law (deep_law_laid (m:=9999) H7_ (by decide) (of_decide_eq_true (by kernel_rfl)) (by kernel_rfl) (by kernel_rfl))
theorem H3_:Tryz.prog.keyType 165=true:=by kernel_rfl
theorem Gj_:Tryz.prog.cellsOf 165=2:=by kernel_rfl
theorem Gk_:Tryz.prog.cellsOf 2=1:=by kernel_rfl
theorem Gl_:Tryz.prog.cellsOf 3=1:=by kernel_rfl
theorem Pd_ (a d:Int) (f:VI a) (g:VI d):∃l,keyOf QW 165 (.agg #[QY QU a,QY QU d])=QJ l:=by obtain⟨m,h⟩:∃m,Tryz.prog.types.size=m+1:=⟨Tryz.prog.types.size-1,by kernel_rfl⟩;unfold VI at f g;unfold keyOf;rw[underlying165,h];simp[H3_,Value.formed,underlying165,Gj_,Gk_,Gl_,Program.keyLits,underlying2,underlying3,Value.cells,f,g]
noncomputable def Ia_ (a d:Int):Lit:=match keyOf QW 165 (.agg #[.int .i64 a,.int .i64 d]) with
 | some l=>l
 | none=>.bool false
theorem o8_ {a d:Int} (f:VI a) (g:VI d):keyOf QW 165 (.agg #[QY QU a,QY QU d])=QJ (Ia_ a d):=by obtain⟨l,h⟩:=Pd_ a d f g;unfold Ia_;rw[h]
theorem Ib_ {a d f g:Int} (o:VI a) (p:VI d) (j:VI f) (m:VI g) (h:Ia_ a d=Ia_ f g):a=f/\d=g:=by have h1:=o8_ o p;rw[h]at h1;have h2:=Ll_.inj h1 (o8_ j m);injection h2 with h2;injection h2 with h2;injection h2 with h2 h3;injection h3 with h3;injection h2 with _ h2;injection h3 with _ h3;exact⟨h2,h3⟩
def Mp_:DataW Unit->List (DataW Unit)
 | .slice es _=>es
 | _=>[]
open Go.ChangeShapes in
theorem sx_ {w:QV} {d:Nat} {e:TypeId} {q:IntKind} {v:XJ} {f:List Int} (h:w.ownsInts d e q v f):Mp_ (rowDatum (H:=Unit) q v f)=lits q f:=by
 rcases h.datum (H:=Unit) with⟨h1,h2⟩ | h1
 ·rw[h1,h2];rfl
 ·rw[h1];rfl
def Ou_ (l:List Nat):List Int:=l.map Int.ofNat
def d1_ (w:QV) (f m n:Nat) (H:Int->Int->List Nat):Prop:=
 ∃D:DataW Unit,w.ownsGroups QW 165 f 3 QU m n D/\∀a d,VI a->VI d->Mp_ (D.atKey (Ia_ a d) .nil)=Go.ChangeShapes.lits QU (Ou_ (H a d))
theorem d1_.isMap {w:QV} {d m n:Nat} {D:DataW Unit} (h:w.ownsGroups QW 165 d 3 QU m n D):IsMap D:=by obtain⟨es,clock,_,_,_,rfl,_⟩:=h;exact⟨_,rfl⟩
theorem w8_ {H:Type} {P:Program} {k:TypeId} {d:Nat} {e:TypeId} {q:IntKind} {b n:Nat} {D:DataW H} {w w':QV} {S:Nat->Prop} (h:w.ownsGroups P k d e q b n D) (ht:Turn S w w') (hb:¬S b) (N:∀g,d<=g->¬S g):w'.ownsGroups P k d e q b n D:=by
 obtain⟨es,clock,p,F,O,rfl,C,u,B⟩:=h;have j:∀{v:XJ} {o:List Int},w.ownsInts d e q v o->w'.ownsInts d e q v o:=λf=>⟨ht.owns f.1 (λg M=>N g (f.1.lt g M).1),f.2⟩;have I:∀x∈es.toList,∀z,rowElem (H:=H) w d e q x.val=QJ z->rowElem w' d e q x.val=QJ z:=by intro x _ z hz;obtain⟨U,f,rfl⟩:=rowElem_inv hz;exact rowElem_mk (j f)
 obtain⟨L,m,_⟩:=F.stay I;refine⟨es,clock,(ht.block b (b_ p) hb).trans p,L,O,by rw[m],C,λx J U f=>?_,B⟩;obtain⟨y,T⟩:=F.reads x J;obtain⟨z,hz,_⟩:=rd_val T;obtain⟨o,r,_⟩:=rowElem_inv hz;rw[f.unique (j r)];exact u x J o r
theorem d1_.turn {w w':QV} {d m n:Nat} {H:Int->Int->List Nat} {S:Nat->Prop} (h:d1_ w d m n H) (ht:Turn S w w') (f:¬S m) (j:∀g,d<=g->¬S g):d1_ w' d m n H:=by obtain⟨D,h1,h2⟩:=h;exact⟨D,w8_ h1 ht f j,h2⟩
theorem r9_ (w:QV) (b:Nat) (o d:Obj):setBlock (setBlock w b o) b d=setBlock w b d:=by unfold setBlock;simp
def d4_ (H:Int->Int->List Nat) (a d:Int) (x:Nat):Int->Int->List Nat:=λf g=>if f=a/\g=d then H a d++[x] else H f g
def ga_ (w:QV) (b:Nat):Prop:=∀(cs:Array XJ) (e:TypeId) (f:Nat×Nat),w.heap[b]?=QJ (XX cs e f)->e=3
theorem yh_ {w:QV} {b:Nat} (h:w.heap.size<=b):ga_ w b:=λcs e f hb=>by
 rw[Array.getElem?_eq_none h]at hb
 cases hb
theorem yi_ {w:QV} {d sz n:Nat} {v:XJ} {xs:List XJ} (h:w.ownsRow d 3 sz v n xs) {g:Nat} (j:v.ownBlock=QJ g):ga_ w g:=λcs e f hb=>by
 rcases h.2 with⟨rfl,_⟩ | ⟨m,p,q,rfl,_,o,_⟩
 ·cases j
 ·have h1:m=g:=by injection j
  subst h1;rw[o]at hb;injection hb with hb;injection hb with _ h2 _;exact h2.symm
def Kf_ (f m n:Nat) (H:Int->Int->List Nat) (a d:Int) (x:Nat) (w:QV) (e:Ending) (w':QV):Prop:=
 e = YQ (ZJ #[])/\d1_ w' f m (n+1) (d4_ H a d x)/\Turn (λb=>b=m\/(f<=b/\ga_ w b)) w w'
theorem js_ (p f m n:Nat) (H:Int->Int->List Nat) (a d:Int) (x:Nat) (Ns Es T A:XJ) (w:QV) (hp:w.heap[p]?=QJ (XX #[Ns,Es,.map (QJ m),T,A] 143 (0,0)))
    (hh:d1_ w f m n H) (ha:VI a) (hd:VI d) (hx:x<=1000000) (hn:n<=1000000) (aj:f<=w.heap.size) :
    Calls QW 99 #[YK (QJ ⟨p,0,QK⟩),QY QU a,QY QU d,QY QU (x:Int)] w (Kf_ f m n H a d x w):=by
 obtain⟨D,Y,U⟩:=hh;have X:=o8_ ha hd;obtain⟨v,zs,ah,a6,a4,av,a1⟩:=Y.at Ll_ underlying140 (E:=94) (by kernel_rfl) (by unfold maxLen;omega) X;have N:=d1_.isMap Y;obtain⟨es,clock,a2,F,hs,bd,bo,az,bf⟩:=Y;have af:=b_ a2;have b0:=b_ hp;obtain⟨z,W⟩:=a_ w.heap.size;obtain⟨w2,Z⟩:=a_ (((w.alloc (XX #[QY QU a,QY QU d] 165)).alloc (XX #[QY QU (x:Int)] 3)).drew);have q:=q_ (show XW w.heap.size w w2 from by rw[<-Z.o];exact (((XV _ _).alloc (XK _) _).alloc (by simp) _).drew);have a9:=q_ (show w2.heap.size=z+2 from by rw[<-Z.o,<-W.o];show ((w.alloc _).alloc _).heap.size=_;simp);have b9:=q_ (show w2.heap[z+1]?=QJ (XX #[QY QU (x:Int)] 3 (0,0)) from by rw[<-Z.o,<-W.o];have h1:=XU (w.alloc (XX #[QY QU a,QY QU d] 165)) (XX #[QY QU (x:Int)] 3);rw[show (w.alloc (XX #[QY QU a,QY QU d] 165)).heap.size=w.heap.size+1 by simp]at h1;exact h1);have V:w2.heap[m]?=QJ (.map es clock):=(q.o.block m af).trans a2;obtain⟨v0,st,ac,B,bh,aq,au⟩:=Dj_ (b:=m) (t:=140) Ll_ underlying140 (z:=QQ QK 0 0) (λu=>by kernel_rfl) F X w2 V;have bj:v0=v:=by have h1:=aq w a2;rw[ah]at h1;injection h1 with h1;exact h1.symm
 subst bj;obtain⟨w3,aa⟩:=a_ (setBlock w2 m (.map ac B));rw[aa.o,<-Z.o]at bh;have r:=q_ (show Turn (λb=>b=m) w2 w3 from by rw[<-aa.o];exact⟨rfl,rfl,rfl,by simp[setBlock],λi _ hi=>heap_setBlock_other V _ hi⟩);have b7:=q_ (show w3.heap[m]?=QJ (.map ac B) from by rw[<-aa.o];exact heap_setBlock_same V _);have j:∀g,v0.ownBlock=QJ g->f<=g/\g<w.heap.size:=λg M=>a4.1.lt g M;have ao:=q_ j;have a8:=q_ (r.o.owns ((Turn.of_below q.o).owns a4.1 (λg M h=>by have:=(j g M).2;omega)) (λg M h=>by have:=(j g M).1;omega));obtain⟨ln,ab⟩:=a_ zs.length;rw[ab.o]at a8;have bq:ln<=1000000:=by rw[<-ab.o];omega
 have ai:=q_ (World.news_of_block (w:=w3) (cs:=#[QY QU (x:Int)]) ((r.o.block (z+1) (by rw[a9.o];omega) (by have:=W.o;omega)).trans b9.o));obtain⟨S3,L⟩:=a_ w3.heap.size;have bn:z+2<=S3:=by have:=r.o.size;have:=a9.o;have:=L.o;omega
 have bb:=q_ au;have b5:=q_ a1;have a7:=q_ a4;have b4:=q_ (And.intro U (And.intro a6 N));have bc:=q_ av;have bs:f<=z:=by rw[<-W.o];exact aj
 have br:m<z:=by rw[<-W.o];exact af
 have aw:=q_ V;have ar:=q_ (And.intro ha hd);have c2:((w.alloc (XX #[QY QU a,QY QU d] 165)).drew).cell? ⟨p,2,QK⟩=QJ (.map (QJ m)):=by rw[show (w.alloc (XX #[QY QU a,QY QU d] 165)).drew.cell? ⟨p,2,QK⟩=(w.alloc (XX #[QY QU a,QY QU d] 165)).cell? ⟨p,2,QK⟩ from rfl,World.cell?_alloc_lt w _ _ b0];exact QX hp 2
 have bm:w.cell? ⟨p,2,QK⟩=QJ (.map (QJ m)):=QX hp 2;clear aq au a1 U a4 a6 F hs bd az bf a2 V j ah X hp av N ha hd;obtain⟨i0,bg,b1,b2,b3⟩:=info_parts jh_;go_enter func99,ntmps99
 go_upto_region 1 with fail;go_region_law (refine step_append_lies _ rfl _ _ 94 rfl f 3 i0 (QY QU 0) 1 8 underlying94 bg b1 b2 b3 rfl (by decide) v0 ln (zs.map (Value.int QU)) rfl (by exact a8.o) ⟨w.heap.size+1,0,QK⟩ 1 1 [QY QU (x:Int)] rfl rfl (by rw[W.o];exact ai.o) (l2_ _ _) (by omega) (by unfold maxLen;omega) (by omega) (by have:=L.o;omega) S3 (by exact L.o) (λg cp C ho M hl _=>?_);obtain⟨ap,O,ad,ag⟩:=bb.o (QQ (QJ ⟨g,0,QK⟩) (ln+1) cp);have J:=q_ (show C.heap[m]?=QJ (.map ac B) from (M.block m (by have:=L.o;omega) (λe=>by have:=(ao.o m e.symm).1;omega)).trans b7.o);have bp:(Instr.entryStore 140 (.map (QJ m)) (QY QU (st:Int)) (QQ (QJ ⟨g,0,QK⟩) (ln+1) cp)).run QW C = .ok () (setBlock C m (.map ap O)):=ad C J.o;have b8:=q_ ag;have ba:=q_ ho;have I:=q_ M;have b6:=q_ hl;clear ad ag ho M hl)
 all_goals (
  go_end0;have bt:=W.o;have bl:S3<=C.heap.size:=by rw[<-L.o];exact I.o.size
  have ak:w.grownBy (setBlock C m (.map es clock)) v0.ownBlock:=by
   refine⟨I.o.os.trans (r.o.os.trans q.o.os),I.o.tape.trans (r.o.tape.trans q.o.tape),I.o.output.trans (r.o.output.trans q.o.output),by show w.heap.size<=(setBlock C m _).heap.size;simp[setBlock];omega,λi hi bi=>?_⟩;by_cases ae:i=m
   ·subst ae;rw[heap_setBlock_same J.o];exact (aw.o.symm.trans (q.o.block i hi))
   ·rw[heap_setBlock_other J.o _ ae,I.o.block i (by rw[L.o];omega) bi,r.o.block i (by rw[a9.o];omega) ae];exact q.o.block i hi
  have a5:(setBlock C m (.map es clock)).ownsInts f 3 QU (QQ (QJ ⟨g,0,QK⟩) (ln+1) cp) (zs++[(x:Int)]):=by
   refine⟨?_,λy hy=>?_⟩
   ·have h1:=ba.o;rw[<-ab.o]at h1 ⊢;rw[ZZ,List.map_append];refine Turn.owns (S:=λb=>b=m) (w:=C) ⟨rfl,rfl,rfl,by simp[setBlock],λi _ hi=>heap_setBlock_other J.o _ hi⟩ h1 λk hk h=>?_;have:=(h1.lt k hk).1;omega
   ·rcases List.mem_append.1 hy with hy | hy
    ·exact a7.o.2 y hy
    ·simp at hy;subst hy;simp[Lit.wf,IntKind.min,IntKind.max,IntKind.signed,IntKind.bits];omega
  obtain⟨w5,am,ay,_⟩:=b5.o _ _ _ ak a5 (by rw[ZZ];simp;have:=bc.o;omega) (by
   rcases b6.o with e | e
   ·exact .inl e.symm
   ·exact .inr ⟨g,rfl,by rw[e];omega⟩)
  have bk:w5=setBlock C m (.map ap O):=by have h1:=b8.o (setBlock C m (.map es clock)) (heap_setBlock_same J.o _);rw[am]at h1;injection h1 with _ h1;rw[h1,r9_]
  subst bk;obtain⟨U,a6,N⟩:=b4.o;refine⟨rfl,⟨_,ay,λa' d' a0 a3=>?_⟩,?_⟩
  ·unfold d4_;by_cases hc:a'=a/\d'=d
   ·obtain⟨rfl,rfl⟩:=hc;rw[iP_ ⟨rfl,rfl⟩,atKey_put_same N (Ll_.key (o8_ a0 a3)),sx_ a5];have h1:=U a' d' a0 a3;rw[a6,sx_ a7.o]at h1;unfold Ou_ at h1 ⊢;unfold Go.ChangeShapes.lits at h1 ⊢;rw[List.map_append,List.map_append,List.map_append,h1];rfl
   ·rw[iN_ hc,atKey_put_other (λh=>hc (Ib_ a0 a3 ar.o.1 ar.o.2 h))];exact U a' d' a0 a3
  ·exact (((Turn.of_below q.o).mono (S':=λb=>b=m\/(f<=b/\ga_ w b)) (λi _ h=>.inr ⟨by omega,yh_ h⟩)).andThen r.o (λi _ h=>.inl h)).trans
     (((Turn.of_grown I.o).mono (S':=λb=>b=m\/(f<=b/\ga_ w b)) (λi _ h=>.inr ⟨(ao.o i h.symm).1,yi_ a7.o.1 h.symm⟩)).trans ⟨rfl,rfl,rfl,by simp[setBlock],λi _ hi=>heap_setBlock_other J.o _ (λe=>hi (.inl e))⟩))
end
section
open Go Go.RowKit Go.Maps Go.WideMaps
def aj_ {α K:Type} (ok:List K -> α -> Bool) (key:α -> K):List K->List α -> Bool
 | _,[]=>true
 | ks,x::r=>ok ks x&&aj_ ok key (ks++[key x]) r
section
variable {α K:Type} {ok:List K -> α -> Bool} {key:α -> K}
theorem Ev_ (l:List α):∀(k:Nat) (ks:List K),aj_ ok key ks l=(aj_ ok key ks (l.take k)&&aj_ ok key (ks++(l.take k).map key) (l.drop k)):=by
 induction l with
 | nil=>intro k ks;simp[aj_]
 | cons p r d=>
  intro k ks
  cases k with
  | zero=>simp[aj_]
  | succ k=>
   simp only[List.take_succ_cons,List.drop_succ_cons,aj_,List.map_cons];rw[d k (ks++[key p])];simp only[Bool.and_assoc,UW,List.singleton_append]
theorem Eu_ (l:List α) (p:α):∀ks:List K,aj_ ok key ks (l++[p])=(aj_ ok key ks l&&ok (ks++l.map key) p):=by
 induction l with
 | nil=>intro ks;simp[aj_]
 | cons q r d=>
  intro ks;simp only[List.cons_append,aj_,List.map_cons,d,Bool.and_assoc,UW];simp
theorem vj_ {l:List α} {k:Nat} {x:α} (d:l[k]?=QJ x) (h:ok ((l.take k).map key) x=false):aj_ ok key [] l=false:=by rw[Ev_ l k [],ng_ d,aj_,List.nil_append,h];simp
theorem yq_ {l:List α} {k:Nat} {x:α} (f:l[k]?=QJ x) (h:ok ((l.take k).map key) x=true) (d:aj_ ok key [] (l.take k)=true):aj_ ok key [] (l.take (k+1))=true:=by rw[f_ f,Eu_,d,List.nil_append,h];rfl
theorem yp_ {l:List α} (h:aj_ ok key [] l=true) {k:Nat} {x:α} (d:l[k]?=QJ x):ok ((l.take k).map key) x=true:=by
 cases hok:ok ((l.take k).map key) x with
 | true=>rfl
 | false=>rw[vj_ d hok]at h;cases h
end
def okN (ids:List Int) (n:i_):Bool:=decide (0<=n.id)&&(!inB ids n.id&&(bo_ [] n.labels&&(decide (n.labels.length<=65536)&&bc_ n.props)))
def okE (ns:List Int) (ids:List Int) (e:l_):Bool:=decide (0<=e.id)&&(!inB ids e.id&&(inB ns e.src&&(inB ns e.dst&&(a6_ e.type&&bc_ e.props))))
def dn_ (g:D_):Bool:=decide (g.nodes.length<=131072/\g.edges.length<=65536)&&(aj_ okN i_.id [] g.nodes&&aj_ (okE (g.nodes.map i_.id)) l_.id [] g.edges)
def b1_ {α d : Type} (R:α -> d -> Prop) (l:List α) (m:List d):Prop:=l.length=m.length/\∀(i:Nat) (x:α) (y:d),l[i]?=QJ x->m[i]?=QJ y->R x y
theorem b1_.nil {α d : Type} (R:α -> d -> Prop):b1_ R ([]:List α) []:=⟨rfl,λi x y h=>by simp at h⟩
theorem b1_.snoc {α f : Type} {R:α -> f -> Prop} {l:List α} {m:List f} {x:α} {y:f} (h:b1_ R l m) (g:R x y):b1_ R (l++[x]) (m++[y]):=by
 refine⟨by simp[h.1],λi a b d hb=>?_⟩;rcases VZ i l.length with hi | hi
 ·rw[List.getElem?_append_left hi]at d;rw[List.getElem?_append_left (by rw[<-h.1];exact hi)]at hb;exact h.2 i a b d hb
 ·rw[List.getElem?_append_right hi]at d;rw[List.getElem?_append_right (by rw[<-h.1];exact hi),<-h.1]at hb;have h0:i-l.length=0:=by have:=c3_ d;simp at this;omega
  rw[h0]at d hb;simp at d hb;subst d hb;exact g
def Oh_ (l d:List i_):Prop:=∃m,b1_ kb_ l m/\d.Perm m/\d.Pairwise (λa b=>¬ed_ b.id a.id<0)
def Og_ (l d:List l_):Prop:=∃m,b1_ ka_ l m/\d.Perm m/\d.Pairwise (λa b=>¬ed_ b.id a.id<0)
def jw_ (g d:D_):Prop:=Oh_ g.nodes d.nodes/\Og_ g.edges d.edges
def Lc_ (e:l_) (a d:Int):Bool:=(d==1&&e.src==a) || ((d == -1&&e.dst==a) || (d==0&&(e.src==a || e.dst==a)))
def ew_ (es:List l_) (a d:Int):List Nat:=(List.range es.length).filter λi=>(es[i]?.map λe=>Lc_ e a d).getD false
theorem Dt_ (es:List l_) (e:l_) (a d:Int):ew_ (es++[e]) a d=ew_ es a d++(if Lc_ e a d then [es.length] else []):=by
 unfold ew_;rw[ZZ,List.length_singleton,List.range_succ,List.filter_append];congr 1
 ·apply List.filter_congr;intro i hi;rw[List.getElem?_append_left (List.mem_range.1 hi)]
 ·simp[List.filter_cons]
def a4_ (w:QV) (m:Nat) (ids:List Int):Prop:=∃D:DataW Unit,w.ownsMap QW 2 (plainElem QW 3) m ids.length D/\IdsOf VI iz_ D ids
theorem a4_.turn {w w':QV} {m:Nat} {ids:List Int} {S:Nat->Prop} (h:a4_ w m ids) (ht:Turn S w w') (d:¬S m):a4_ w' m ids:=by obtain⟨D,h1,h2⟩:=h;exact⟨D,ht.map h1 d,h2⟩
theorem a4_.lt {w:QV} {m:Nat} {ids:List Int} (h:a4_ w m ids):m<w.heap.size:=by obtain⟨D,⟨es,clock,hb,_⟩,_⟩:=h;exact b_ hb
structure fy_ (w:QV) (lo p:Nat) (g:D_) (Ns Es:XJ) (mh mt ma mid n:Nat):Prop where
 blk:w.heap[p]?=QJ (XX #[Ns,Es,.map (QJ mh),.map (QJ mt),.map (QJ ma)] 143 (0,0))
 nodes:SlR 3 NoR w (λb=>lo<=b/\b<mid) g.nodes Ns
 edges:SlR 5 EdR w (λb=>lo<=b/\b<mid) g.edges Es
 types:a4_ w mt (g.edges.map l_.id)
 at_:a4_ w ma (g.nodes.map i_.id)
 hops:d1_ w mid mh n (ew_ g.edges)
 loc:lo<=p/\lo<=mh/\lo<=mt/\lo<=ma/\mid<=w.heap.size/\mh<mid
 few:n<=1000000
def gb_ (w:QV) (lo p:Nat) (g:D_):Prop:=∃Ns Es f h d mid n,fy_ w lo p g Ns Es f h d mid n
theorem fy_.turn {w w':QV} {lo p:Nat} {g:D_} {Ns Es:XJ} {m o j mid n:Nat} {S:Nat->Prop} (h:fy_ w lo p g Ns Es m o j mid n) (ht:Turn S w w') (d:∀b,lo<=b->b<w.heap.size->¬S b):fy_ w' lo p g Ns Es m o j mid n:=by
 have q:=b_ h.blk;obtain⟨u,v,x,y,I,J⟩:=h.loc;have B:=h.hops
 refine⟨(ht.block p q (d p u q)).trans h.blk,h.nodes.turn NoR.good ht (λb hb=>by omega) (λb hb=>d b hb.1 (by omega)),h.edges.turn EdR.good ht (λb hb=>by omega) (λb hb=>d b hb.1 (by omega)),
  h.types.turn ht (d o x h.types.lt),h.at_.turn ht (d j y h.at_.lt),?_,⟨u,v,x,y,ZX I ht.size,J⟩,h.few⟩
 have r:Turn (λb=>S b/\b<w.heap.size) w w':=⟨ht.os,ht.tape,ht.output,ht.size,λi hi C=>ht.block i hi (λD=>C ⟨D,hi⟩)⟩;exact B.turn r (λf=>d m v f.2 f.1) (λb hb f=>d b (by omega) f.2 f.1)
theorem gb_.turn {w w':QV} {lo p:Nat} {g:D_} {S:Nat->Prop} (h:gb_ w lo p g) (ht:Turn S w w') (d:∀b,lo<=b->b<w.heap.size->¬S b):gb_ w' lo p g:=by obtain⟨Ns,Es,j,m,f,mid,n,h⟩:=h;exact⟨Ns,Es,j,m,f,mid,n,h.turn ht d⟩
theorem gb_.below {w w':QV} {lo p:Nat} {g:D_} (h:gb_ w lo p g) (hb:XW w.heap.size w w'):gb_ w' lo p g:=h.turn (Turn.of_below hb) (λb _ h1 h2=>by omega)
def j3_ (g:D_):Prop:=g.nodes.length<=2000000/\g.edges.length<=2000000/\(∀n,n∈g.nodes->rm_ n/\VI n.id)/\∀e,e∈g.edges->My_ e/\VI e.id/\VI e.src/\VI e.dst
def sq_ (g:D_) (w:QV) (e:Ending) (w':QV):Prop:=
 XW w.heap.size w w'/\((dn_ g=false/\e = YQ (ZJ #[YK QK,QY QU 21])) \/
  (dn_ g=true/\∃p d,e = YQ (ZJ #[YK (QJ ⟨p,0,QK⟩),QY QU 0])/\gb_ w' w.heap.size p d/\jw_ g d))
end
section
open Go Go.RowKit Go.Maps Go.WideMaps Go.MapKept
theorem qj_:(Tryz.prog.info? 72).map (λi=>(i.zero,i.size,i.bytes))=QJ (QJ (.agg #[QY QU 0,QQ QK 0 0,QQ QK 0 0]),3,56):=by kernel_rfl
theorem qi_:(Tryz.prog.info? 74).map (λi=>(i.zero,i.size,i.bytes))=QJ (QJ (.agg #[QY QU 0,QY QU 0,QY QU 0,QZ ⟨#[]⟩,QQ QK 0 0]),5,64):=by kernel_rfl
theorem jk_ {w:QV} {F:Nat->Prop} {l:List i_} {A:Option Addr} {n:Nat} (h:SRd 3 NoR w F l A n) {i:Nat} {x:i_} (y:l[i]?=QJ x) :
    ∃ad d g f j,A=QJ ad/\F ad.block/\NoR w F x #[QY QU x.id,QQ d x.labels.length g,QQ f x.props.length j]/\SRd 1 TxR w F x.labels d x.labels.length/\SRd 7 PaR w F x.props f x.props.length/\w.cell? (ad.add (i*3))=QJ (QY QU x.id) /\
     w.cell? ⟨(ad.add (i*3)).block,(ad.add (i*3)).off+1,QK⟩=QJ (QQ d x.labels.length g)/\w.cell? ⟨(ad.add (i*3)).block,(ad.add (i*3)).off+2,QK⟩=QJ (QQ f x.props.length j):=by
 obtain⟨ad,c,e,v,_,m,L,P,rfl,⟨d,g,rfl,h1,h2⟩,f,j,rfl,u,q⟩:=h.at_ y;have r:=m 0 (by omega);have o:=m 1 (by omega);have p:=m 2 (by omega);rw[<-add_of_add]at o p;exact⟨ad,d,g,f,j,e,v,⟨_,_,rfl,⟨d,g,rfl,h1,h2⟩,f,j,rfl,u,q⟩,h2,q,r,o,p⟩
theorem jf_ {w:QV} {F:Nat->Prop} {l:List l_} {A:Option Addr} {n:Nat} (h:SRd 5 EdR w F l A n) {i:Nat} {x:l_} (y:l[i]?=QJ x) :
    ∃ad d f,A=QJ ad/\F ad.block/\EdR w F x #[QY QU x.id,QY QU x.src,QY QU x.dst,QZ x.type,QQ d x.props.length f]/\SRd 7 PaR w F x.props d x.props.length/\w.cell? (ad.add (i*5))=QJ (QY QU x.id) /\
     w.cell? ⟨(ad.add (i*5)).block,(ad.add (i*5)).off+1,QK⟩=QJ (QY QU x.src)/\w.cell? ⟨(ad.add (i*5)).block,(ad.add (i*5)).off+2,QK⟩=QJ (QY QU x.dst) /\
     w.cell? ⟨(ad.add (i*5)).block,(ad.add (i*5)).off+3,QK⟩=QJ (QZ x.type)/\w.cell? ⟨(ad.add (i*5)).block,(ad.add (i*5)).off+4,QK⟩=QJ (QQ d x.props.length f):=by
 obtain⟨ad,c,e,v,_,g,P,rfl,d,f,rfl,u,q⟩:=h.at_ y;have r:=g 0 (by omega);have j:=g 1 (by omega);have m:=g 2 (by omega);have o:=g 3 (by omega);have p:=g 4 (by omega);rw[<-add_of_add]at j m o p;exact⟨ad,d,f,e,v,⟨_,rfl,d,f,rfl,u,q⟩,q,r,j,m,o,p⟩
structure f7_ (w:QV) (z:Nat) (NV EV:XJ) (l:List i_) (ids:List Int) (k:Nat) (ns:List i_) (Ns:XJ) (wr:QV):Prop where
 below:XW z w wr
 box:wr.heap[z]?=QJ (XX #[NV,EV] 54 (0,0))
 m1:wr.heap[z+1]?=QJ (.map #[] 0)
 m2:wr.heap[z+2]?=QJ (.map #[] 0)
 m3:wr.heap[z+3]?=QJ (.map #[] 0)
 store:wr.heap[z+4]?=QJ (XX #[Ns,QQ QK 0 0,.map (QJ (z+1)),.map (QJ (z+2)),.map (QJ (z+3))] 143 (0,0))
 set:a5_ 2 VI iz_ wr (z+5) ids
 own:x_ 72 3 NoR wr (λb=>z+6<=b/\b<wr.heap.size) ns Ns
 all:b1_ kb_ (l.take k) ns
 ok:aj_ okN i_.id [] (l.take k)=true
theorem f7_.on {w:QV} {z:Nat} {g f:XJ} {l:List i_} {ids:List Int} {k:Nat} {ns:List i_} {Ns:XJ} {wr w2:QV} (h:f7_ w z g f l ids k ns Ns wr) (hb:XW wr.heap.size wr w2):f7_ w z g f l ids k ns Ns w2:=by
 have hz:z+5<wr.heap.size:=h.set.lt
 exact⟨h.below.trans (hb.mono (by omega)),(hb.block _ (by omega)).trans h.box,(hb.block _ (by omega)).trans h.m1,(hb.block _ (by omega)).trans h.m2,(hb.block _ (by omega)).trans h.m3,(hb.block _ (by omega)).trans h.store,h.set.below hb,
  (h.own.turn NoR.good (Turn.of_below hb) (λb hb=>hb.2) (λb hb h=>by omega)).mono NoR.good (λb d=>⟨d.1,XZ d.2 hb.size⟩),h.all,h.ok⟩
theorem f7_.put {w:QV} {z:Nat} {g f:XJ} {l:List i_} {ids ids':List Int} {k:Nat} {ns:List i_} {Ns:XJ} {wr w2:QV} (h:f7_ w z g f l ids k ns Ns wr) (ht:Turn (λb=>b=z+5) wr w2) (j:a5_ 2 VI iz_ w2 (z+5) ids'):f7_ w z g f l ids' k ns Ns w2:=by
 have hz:z+5<wr.heap.size:=h.set.lt
 exact⟨h.below.trans (ht.below (B:=z) (λi _ hi=>by omega) (by omega)),(ht.block _ (by omega) (by omega)).trans h.box,(ht.block _ (by omega) (by omega)).trans h.m1,(ht.block _ (by omega) (by omega)).trans h.m2,(ht.block _ (by omega) (by omega)).trans h.m3,(ht.block _ (by omega) (by omega)).trans h.store,j,
  (h.own.turn NoR.good ht (λb hb=>hb.2) (λb hb h=>by omega)).mono NoR.good (λb d=>⟨d.1,XZ d.2 ht.size⟩),h.all,h.ok⟩
theorem Np_ {g:D_} (h:aj_ okN i_.id [] g.nodes=false):dn_ g=false:=by unfold dn_;rw[h];simp
theorem mh_ {v:g_} (h:bh_ v=true):v.list=[]:=by
 unfold bh_ at h;rw[YW]at h;obtain⟨h1,h2⟩:=h;obtain⟨k,b,n,t,x,l⟩:=v;simp only[g_.kind,Bool.or_eq_true,beq_iff_eq]at h2;simp only[g_.list];have g:k≠5:=by rcases h2 with h | h | h | h<;>omega
 unfold I_ at h1
 have d:∀{f:Bool} {n':Int} {t' x':ByteArray},aw_ k b n t x l f n' t' x'=true->l=[]:=λh=>by
  unfold aw_ at h;simp only[YW,Bool.or_eq_true,decide_eq_true_eq]at h;rcases h.2.2.2.2 with h | h
  ·exact UK h
  ·exact absurd h g
 rcases h2 with rfl | rfl | rfl | rfl
 ·simp at h1;exact d h1
 ·simp at h1;exact d h1
 ·simp at h1;exact d h1.2
 ·simp at h1;exact d h1.2
theorem x4_ {v:g_} (h:bw_ v=true):∀x,x∈v.list->x.list=[]:=by
 unfold bw_ at h;by_cases f:v.kind=5
 ·rw[iP_ f,YW,List.all_eq_true]at h;exact λx d=>mh_ (h.2 x d)
 ·rw[iN_ f]at h;rw[mh_ h];intro x d;cases d
theorem x6_ {l:List J_}:∀{ks:List ByteArray},bd_ ks l=true->∀p,p∈l->vz_ p:=by
 induction l with
 | nil=>intro ks _ p d;cases d
 | cons q r f=>
  intro ks h p d;simp only[bd_,YW]at h;rcases List.mem_cons.1 d with rfl | d
  ·exact x4_ h.1.2.2
  ·exact f h.2 p d
theorem gi_ {l:List J_} (h:bc_ l=true):∀p,p∈l->vz_ p:=by unfold bc_ at h;rw[YW]at h;exact x6_ h.1
theorem L5_ (w:QV) (d f g h j m:Obj):(((((((w.alloc d).alloc f).alloc g).alloc h).alloc j).alloc m).heap=w.heap++#[d,f,g,h,j,m]):=by simp only[Go.Sort.alloc_eq_grow,Go.Sort.grow_grow];rfl
theorem hf_ {h:Array Obj} {os:Array Obj} {z i:Nat} {o:Obj} (hz:h.size=z) (d:os[i]?=QJ o):(h++os)[z+i]?=QJ o:=by subst hz;rw[Array.getElem?_append_right (Nat.le_add_right _ _),Nat.add_sub_cancel_left];exact d
theorem E6_ (w:QV) (d f g:Obj):(((w.alloc d).alloc f).alloc g).heap=w.heap++#[d,f,g]:=by simp only[Go.Sort.alloc_eq_grow,Go.Sort.grow_grow];rfl
theorem L1_ {K:Type} [DecidableEq K] {f:TypeId} {V:K->Prop} {d:K->Lit} {w:QV} {m:Nat} (h:w.heap[m]?=QJ (.map #[] 0)):a5_ f V d w m ([]:List K):=
 ⟨.map [],⟨#[],0,h,⟨by simp,stamped_empty 0,by simp⟩,XK _,rfl⟩,λ_ _=>rfl⟩
theorem Hn_ {w w':QV} {z:Nat} (h:ad_ w) (hz:w.heap.size=z) (hb:XW z w w'):ad_ w':=j_ h (by rw[hz];exact hb)
theorem f7_.more {w:QV} {z:Nat} {I D:XJ} {l:List i_} {ids:List Int} {k:Nat} {ns:List i_} {A3:Option Addr} {c3:Nat} {w5 w6 w7:QV} {cs:Nat->Array XJ} {x n':i_} {c:Array XJ} {g7 c7:Nat}
    (h:f7_ w z I D l ids k ns (QQ A3 k c3) w5) (o:ns.length=k) (j:∀b,(Value.slice A3 k c3).ownBlock=QJ b->z+6<=b/\b<w5.heap.size) (J:∀i,i<k->(cs i).size=3) (U:∀i x,ns[i]?=QJ x->NoR w5 (λb=>(z+6<=b/\b<w5.heap.size)/\(Value.slice A3 k c3).ownBlock≠QJ b) x (cs i))
    (d:l[k]?=QJ x) (m:XW w5.heap.size w5 w6) (C:kb_ x n') (M:NoR w6 (λb=>w5.heap.size<=b/\b<w6.heap.size) n' c) (S:c.size=3) (q:w6.grownBy w7 (Value.slice A3 k c3).ownBlock) (v:(Value.slice A3 k c3).ownBlock=QJ g7\/g7=w6.heap.size+1)
    (N:w7.ownsRow 0 72 3 (QQ (QJ ⟨g7,0,QK⟩) (k+1) c7) (k+1) (R_ cs k++c.toList)) (O:aj_ okN i_.id [] (l.take (k+1))=true) :
    f7_ w z I D l ids (k+1) (ns++[n']) (QQ (QJ ⟨g7,0,QK⟩) (k+1) c7) (w7.setCell ⟨z+4,0,QK⟩ (QQ (QJ ⟨g7,0,QK⟩) (k+1) c7)):=by
 have hz:z+5<w5.heap.size:=h.set.lt;have X:w5.heap.size<=w6.heap.size:=m.size;have Y:w6.heap.size<=w7.heap.size:=q.size;have W:g7<w7.heap.size:=(N.lt g7 rfl).2;have g:=h.on m
 have r:=g7_ (w5:=w6) (w6:=w7) (R:=NoR) (E:=72) (sz:=3) (F:=λb=>z+6<=b/\b<w5.heap.size) (G:=λb=>w5.heap.size<=b/\b<w6.heap.size) (l:=ns) (x:=n') (s:=QQ A3 k c3) (c:=c) (g4:=g7) (c4:=c7) (cs:=cs) NoR.good
  (λi hi=>J i (by omega)) (λi y V=>NoR.good.keep (U i y V) (λp T=>m.cell (by have:=T.1.2;omega))) M S (λb hb e=>by have:=(j b e).2;have:=hb.1;omega) (λb hb=>by have:=hb.2;omega) (λb hb=>hb.2) (by rw[o];exact N) q (by rcases v with e | e;exact .inl e;exact .inr (by omega))
 rw[o]at r
 have u:Turn (λb=>QJ b=(Value.slice A3 k c3).ownBlock\/b=z+4) w6 (w7.setCell ⟨z+4,0,QK⟩ (QQ (QJ ⟨g7,0,QK⟩) (k+1) c7)):=
  ((Turn.of_grown q).mono (λb _ hb=>.inl hb)).trans (((Turn.refl (λb=>b=z+4) w7).setCell (p:=⟨z+4,0,QK⟩) (.inr rfl) _).mono (λb _ hb=>.inr hb))
 have f:∀b,b<z+6->b≠z+4->(w7.setCell ⟨z+4,0,QK⟩ (QQ (QJ ⟨g7,0,QK⟩) (k+1) c7)).heap[b]?=w6.heap[b]?:=λb hb L=>u.block b (by omega) (λd=>by
  rcases d with d | d
  ·have:=(j b d.symm).1;omega
  ·exact L d)
 refine⟨g.below.trans (u.below (B:=z) (λi _ hi=>?_) (by omega)),(f _ (by omega) (by omega)).trans g.box,(f _ (by omega) (by omega)).trans g.m1,(f _ (by omega) (by omega)).trans g.m2,(f _ (by omega) (by omega)).trans g.m3,?_,g.set.turn u (λd=>?_),?_,?_,O⟩
 ·rcases hi with hi | hi
  ·have:=(j i hi.symm).1;omega
  ·omega
 ·exact heap_setCell_same w7 (z+4) 0 _ _ _ ((q.block (z+4) (by omega) (λe=>by have:=(j (z+4) e.symm).1;omega)).trans g.store)
 ·rcases d with d | d
  ·have:=(j (z+5) d.symm).1;omega
  ·omega
 ·refine (r.turn NoR.good ((Turn.refl (λb=>b=z+4) w7).setCell (p:=⟨z+4,0,QK⟩) (.inr rfl) _) (λb hb=>?_) (λb hb e=>?_)).mono NoR.good λb hb=>?_
  ·rcases hb with hb | hb | hb
   ·omega
   ·omega
   ·omega
  ·rcases hb with hb | hb | hb
   ·omega
   ·omega
   ·rcases v with h1 | h1
    ·have:=(j g7 h1).1;omega
    ·omega
  ·show z+6<=b/\b<(w7.setCell _ _).heap.size;simp only[World.size_setCell];rcases hb with hb | hb | hb
   ·omega
   ·omega
   ·rcases v with h1 | h1
    ·have:=(j g7 h1).1;omega
    ·omega
 ·rw[f_ d];exact h.all.snoc C
structure f8_ (w:QV) (z z2:Nat) (nids:List Int) (NS:List i_) (Ns:XJ) (l:List l_) (ids:List Int) (k:Nat) (es:List l_) (Es:XJ) (wr:QV):Prop where
 below:XW z w wr
 m1:wr.heap[z+1]?=QJ (.map #[] 0)
 m2:wr.heap[z+2]?=QJ (.map #[] 0)
 m3:wr.heap[z+3]?=QJ (.map #[] 0)
 store:wr.heap[z+4]?=QJ (XX #[Ns,Es,.map (QJ (z+1)),.map (QJ (z+2)),.map (QJ (z+3))] 143 (0,0))
 nset:a5_ 2 VI iz_ wr (z+5) nids
 set:a5_ 2 VI iz_ wr z2 ids
 far:z+6<=z2
 nodes:x_ 72 3 NoR wr (λb=>z+6<=b/\b<z2) NS Ns
 own:x_ 74 5 EdR wr (λb=>z2+1<=b/\b<wr.heap.size) es Es
 all:b1_ ka_ (l.take k) es
 ok:aj_ (okE nids) l_.id [] (l.take k)=true
section
variable {w:QV} {z z2:Nat} {nids:List Int} {NS:List i_} {Ns:XJ} {l:List l_} {ids ids':List Int} {k:Nat} {es:List l_} {Es:XJ} {wr w2:QV}
theorem f8_.on (h:f8_ w z z2 nids NS Ns l ids k es Es wr) (hb:XW wr.heap.size wr w2):f8_ w z z2 nids NS Ns l ids k es Es w2:=by
 have hz:z2<wr.heap.size:=h.set.lt;have f:=h.far
 exact⟨h.below.trans (hb.mono (by omega)),(hb.block _ (by omega)).trans h.m1,(hb.block _ (by omega)).trans h.m2,(hb.block _ (by omega)).trans h.m3,(hb.block _ (by omega)).trans h.store,h.nset.below hb,h.set.below hb,f,
  h.nodes.turn NoR.good (Turn.of_below hb) (λb hb=>by omega) (λb hb h=>by omega),
  (h.own.turn EdR.good (Turn.of_below hb) (λb hb=>hb.2) (λb hb h=>by omega)).mono EdR.good (λb d=>⟨d.1,XZ d.2 hb.size⟩),h.all,h.ok⟩
theorem f8_.put (h:f8_ w z z2 nids NS Ns l ids k es Es wr) (ht:Turn (λb=>b=z2) wr w2) (g:a5_ 2 VI iz_ w2 z2 ids'):f8_ w z z2 nids NS Ns l ids' k es Es w2:=by
 have hz:z2<wr.heap.size:=h.set.lt;have f:=h.far
 exact⟨h.below.trans (ht.below (B:=z) (λi _ hi=>by omega) (by omega)),(ht.block _ (by omega) (by omega)).trans h.m1,(ht.block _ (by omega) (by omega)).trans h.m2,(ht.block _ (by omega) (by omega)).trans h.m3,(ht.block _ (by omega) (by omega)).trans h.store,h.nset.turn ht (by omega),g,f,
  h.nodes.turn NoR.good ht (λb hb=>by omega) (λb hb h=>by omega),
  (h.own.turn EdR.good ht (λb hb=>hb.2) (λb hb h=>by omega)).mono EdR.good (λb d=>⟨d.1,XZ d.2 ht.size⟩),h.all,h.ok⟩
end
theorem f8_.more {w:QV} {z z2:Nat} {nids:List Int} {NS:List i_} {Ns:XJ} {l:List l_} {ids:List Int} {k:Nat} {es:List l_} {A3:Option Addr} {c3:Nat} {w5 w6 w7:QV} {cs:Nat->Array XJ} {x n':l_} {c:Array XJ} {g7 c7:Nat}
    (h:f8_ w z z2 nids NS Ns l ids k es (QQ A3 k c3) w5) (r:es.length=k) (m:∀b,(Value.slice A3 k c3).ownBlock=QJ b->z2+1<=b/\b<w5.heap.size) (J:∀i,i<k->(cs i).size=5) (U:∀i x,es[i]?=QJ x->EdR w5 (λb=>(z2+1<=b/\b<w5.heap.size)/\(Value.slice A3 k c3).ownBlock≠QJ b) x (cs i))
    (j:l[k]?=QJ x) (q:XW w5.heap.size w5 w6) (I:ka_ x n') (L:EdR w6 (λb=>w5.heap.size<=b/\b<w6.heap.size) n' c) (O:c.size=5) (v:w6.grownBy w7 (Value.slice A3 k c3).ownBlock) (D:(Value.slice A3 k c3).ownBlock=QJ g7\/g7=w6.heap.size+1)
    (M:w7.ownsRow 0 74 5 (QQ (QJ ⟨g7,0,QK⟩) (k+1) c7) (k+1) (R_ cs k++c.toList)) (N:aj_ (okE nids) l_.id [] (l.take (k+1))=true) :
    f8_ w z z2 nids NS Ns l ids (k+1) (es++[n']) (QQ (QJ ⟨g7,0,QK⟩) (k+1) c7) (w7.setCell ⟨z+4,1,QK⟩ (QQ (QJ ⟨g7,0,QK⟩) (k+1) c7)):=by
 have hz:z2<w5.heap.size:=h.set.lt;have S:=h.far;have X:w5.heap.size<=w6.heap.size:=q.size;have Y:w6.heap.size<=w7.heap.size:=v.size;have W:g7<w7.heap.size:=(M.lt g7 rfl).2;have g:=h.on q
 have C:=g7_ (w5:=w6) (w6:=w7) (R:=EdR) (E:=74) (sz:=5) (F:=λb=>z2+1<=b/\b<w5.heap.size) (G:=λb=>w5.heap.size<=b/\b<w6.heap.size) (l:=es) (x:=n') (s:=QQ A3 k c3) (c:=c) (g4:=g7) (c4:=c7) (cs:=cs) EdR.good
  (λi hi=>J i (by omega)) (λi y V=>EdR.good.keep (U i y V) (λp T=>q.cell (by have:=T.1.2;omega))) L O (λb hb e=>by have:=(m b e).2;have:=hb.1;omega) (λb hb=>by have:=hb.2;omega) (λb hb=>hb.2) (by rw[r];exact M) v (by rcases D with e | e;exact .inl e;exact .inr (by omega))
 rw[r]at C
 have o:Turn (λb=>QJ b=(Value.slice A3 k c3).ownBlock\/b=z+4) w6 (w7.setCell ⟨z+4,1,QK⟩ (QQ (QJ ⟨g7,0,QK⟩) (k+1) c7)):=
  ((Turn.of_grown v).mono (λb _ hb=>.inl hb)).trans (((Turn.refl (λb=>b=z+4) w7).setCell (p:=⟨z+4,1,QK⟩) (.inr rfl) _).mono (λb _ hb=>.inr hb))
 have f:∀b,b<z2+1->b≠z+4->¬(QJ b=(Value.slice A3 k c3).ownBlock\/b=z+4):=λb hb u j=>by
  rcases j with j | j
  ·have:=(m b j.symm).1;omega
  ·exact u j
 have d:∀b,b<z2+1->b≠z+4->(w7.setCell ⟨z+4,1,QK⟩ (QQ (QJ ⟨g7,0,QK⟩) (k+1) c7)).heap[b]?=w6.heap[b]?:=λb hb u=>o.block b (by omega) (f b hb u);refine⟨g.below.trans (o.below (B:=z) (λi _ hi=>?_) (by omega)),(d _ (by omega) (by omega)).trans g.m1,(d _ (by omega) (by omega)).trans g.m2,(d _ (by omega) (by omega)).trans g.m3,?_,g.nset.turn o (f _ (by omega) (by omega)),g.set.turn o (f _ (by omega) (by omega)),S,g.nodes.turn NoR.good o (λb hb=>by omega) (λb hb=>f b (by omega) (by omega)),?_,?_,N⟩
 ·rcases hi with hi | hi
  ·have:=(m i hi.symm).1;omega
  ·omega
 ·exact heap_setCell_same w7 (z+4) 1 _ _ _ ((v.block (z+4) (by omega) (λe=>by have:=(m (z+4) e.symm).1;omega)).trans g.store)
 ·refine (C.turn EdR.good ((Turn.refl (λb=>b=z+4) w7).setCell (p:=⟨z+4,1,QK⟩) (.inr rfl) _) (λb hb=>?_) (λb hb e=>?_)).mono EdR.good λb hb=>?_
  ·rcases hb with hb | hb | hb
   ·omega
   ·omega
   ·omega
  ·rcases hb with hb | hb | hb
   ·omega
   ·omega
   ·rcases D with h1 | h1
    ·have:=(m g7 h1).1;omega
    ·omega
  ·show z2+1<=b/\b<(w7.setCell _ _).heap.size;simp only[World.size_setCell];rcases hb with hb | hb | hb
   ·omega
   ·omega
   ·rcases D with h1 | h1
    ·have:=(m g7 h1).1;omega
    ·omega
 ·rw[f_ j];exact h.all.snoc I
theorem Lr_ {g:D_} (h:aj_ (okE (g.nodes.map i_.id)) l_.id [] g.edges=false):dn_ g=false:=by unfold dn_;rw[h];simp
theorem f7_.next {w:QV} {z:Nat} {f d:XJ} {l:List i_} {nids:List Int} {k:Nat} {ns:List i_} {Ns:XJ} {wr:QV} (h:f7_ w z f d l nids k ns Ns wr) (le:List l_) :
    f8_ w z wr.heap.size nids ns Ns le [] 0 [] (QQ QK 0 0) (wr.alloc (.map #[] 0)):=by
 have hz:z+5<wr.heap.size:=h.set.lt;have h2:=h.on ((XV wr.heap.size wr).alloc (XK _) (.map #[] 0));exact⟨h2.below,h2.m1,h2.m2,h2.m3,h2.store,h2.set,a5_.made _ _ _ _,by omega,h.own.turn NoR.good (Turn.of_below ((XV wr.heap.size wr).alloc (XK _) (.map #[] 0))) (λb hb=>hb.2) (λb hb h=>by omega),x_.nil ..,b1_.nil _,rfl⟩
theorem l3_ (a b:Int):(ed_ a b<0)=(a<b):=by
 unfold ed_;by_cases h1:a<b
 ·simp[h1]
 ·by_cases h2:b<a<;>simp[h1,h2]
structure ItN where
 n:i_
 A:Option Addr
 c:Nat
 B:Option Addr
 d:Nat
instance:Inhabited ItN:=⟨⟨⟨0,[],[]⟩,QK,0,QK,0⟩⟩
def Df_ (x:ItN):List XJ:=[QY QU x.n.id,QQ x.A x.n.labels.length x.c,QQ x.B x.n.props.length x.d]
structure ItE where
 e:l_
 A:Option Addr
 c:Nat
instance:Inhabited ItE:=⟨⟨⟨0,0,0,⟨#[]⟩,[]⟩,QK,0⟩⟩
def De_ (x:ItE):List XJ:=[QY QU x.e.id,QY QU x.e.src,QY QU x.e.dst,QZ x.e.type,QQ x.A x.e.props.length x.c]
theorem Gp_ (x y:ItN) (W:QV):Calls QW 95 #[.agg (Df_ x).toArray,.agg (Df_ y).toArray] W λe w'=>e = YQ (QY QU (ed_ x.n.id y.n.id))/\∃q f,w'=Go.Sort.grow (W.drewN q) f:=by
 have d:=q_ (λg=>x0_ x.n.id y.n.id g);generalize ed_ x.n.id y.n.id=r at d ⊢;unfold Df_;go_enter func95,ntmps95
 go_wp2_with fail;refine (d.o _).mono ?_;rintro e w' ⟨rfl,rfl⟩;go_wp2_with fail;go_ret;exact⟨rfl,0,_,by rw[Go.Sort.alloc_eq_grow,Go.Sort.alloc_eq_grow,Go.Sort.grow_grow];rfl⟩
theorem Gn_ (x y:ItE) (W:QV):Calls QW 98 #[.agg (De_ x).toArray,.agg (De_ y).toArray] W λe w'=>e = YQ (QY QU (ed_ x.e.id y.e.id))/\∃q f,w'=Go.Sort.grow (W.drewN q) f:=by
 have d:=q_ (λg=>x0_ x.e.id y.e.id g);generalize ed_ x.e.id y.e.id=r at d ⊢;unfold De_;go_enter func98,ntmps98
 go_wp2_with fail;refine (d.o _).mono ?_;rintro e w' ⟨rfl,rfl⟩;go_wp2_with fail;go_ret;exact⟨rfl,0,_,by rw[Go.Sort.alloc_eq_grow,Go.Sort.alloc_eq_grow,Go.Sort.grow_grow];rfl⟩
theorem O1_ {I:Type} (d : I->Int):Go.Sort.SWO (ltOf λx y:I=>ed_ (d x) (d y)) where
 irrefl x:=by unfold ltOf;rw[decide_eq_false_iff_not,l3_];omega
 trans x y z h1 h2:=by unfold ltOf at *;rw [decide_eq_true_iff, l3_] at *;omega
 ntrans x y z h1 h2:=by unfold ltOf at *;rw [decide_eq_false_iff_not, l3_] at *;omega
theorem itN {w:QV} {F:Nat->Prop} {x:i_} {c:Array XJ} (h:NoR w F x c):∃d,Df_ d=c.toList/\d.n=x:=by obtain⟨L,P,rfl,⟨A,f,rfl,_⟩,B,g,rfl,_⟩:=h;exact⟨⟨x,A,f,B,g⟩,rfl,rfl⟩
theorem itE {w:QV} {F:Nat->Prop} {x:l_} {c:Array XJ} (h:EdR w F x c):∃d,De_ d=c.toList/\d.e=x:=by obtain⟨P,rfl,A,f,rfl,_⟩:=h;exact⟨⟨x,A,f⟩,rfl,rfl⟩
def Bi_ {α : Type} (sz:Nat) (R:bu_ α) (le:α -> α -> Prop) (F:Nat->Prop) (l:List α) (s:XJ) (w:QV) (e:Ending) (w':QV):Prop:=
 e = YQ (ZJ #[])/\∃d:List α,(d.Perm l/\d.Pairwise le)/\SlR sz R w' F d s/\Turn (λb=>s.ownBlock=QJ b) w w'
def leN (a b:i_):Prop:=¬ed_ b.id a.id<0
def leE (a b:l_):Prop:=¬ed_ b.id a.id<0
theorem u0_ {w:QV} {F:Nat->Prop} {l:List i_} {s:XJ} (h:x_ 72 3 NoR w F l s) (d:l.length<=100000000) (m:∀b,F b->b<w.heap.size) :
    Calls QW 94 #[s,.func (.func 95) #[] #[]] w (Bi_ 3 NoR leN F l s w):=
 (re_ Tryz.sortN NoR.good (by decide) isAgg72 sizeOf72 Df_ ItN.n (λ_=>rfl) (λx v f=>by simp[Df_]at f;rcases f with rfl | rfl | rfl<;>rfl) itN (λa b=>ed_ a.id b.id) (O1_ λx:ItN=>x.n.id) 95 (enters_of func95 (by kernel_rfl) rfl) Gp_ h d m).mono λ_ _ ⟨o,p,h1,h2,g,j⟩=>⟨o,p,⟨h1,h2⟩,g,j⟩
theorem Ew_ {w:QV} {F:Nat->Prop} {l:List l_} {s:XJ} (h:x_ 74 5 EdR w F l s) (d:l.length<=100000000) (m:∀b,F b->b<w.heap.size) :
    Calls QW 97 #[s,.func (.func 98) #[] #[]] w (Bi_ 5 EdR leE F l s w):=
 (re_ Tryz.sortE EdR.good (by decide) isAgg74 sizeOf74 De_ ItE.e (λ_=>rfl) (λx v f=>by simp[De_]at f;rcases f with rfl | rfl | rfl | rfl | rfl<;>rfl) itE (λa b=>ed_ a.id b.id) (O1_ λx:ItE=>x.e.id) 98 (enters_of func98 (by kernel_rfl) rfl) Gn_ h d m).mono λ_ _ ⟨o,p,h1,h2,g,j⟩=>⟨o,p,⟨h1,h2⟩,g,j⟩
theorem hz_ {α : Type} {ok:List Int -> α -> Bool} {key:α -> Int} (f:∀ks x,ok ks x=true->key x∉ks) {l:List α}:∀{ks:List Int},ks.Nodup->aj_ ok key ks l=true->(ks++l.map key).Nodup:=by
 induction l with
 | nil=>intro ks d _;simpa using d
 | cons x r m=>
  intro ks d h;simp only[aj_,YW]at h;have j:=f ks x h.1;have h2:=m (ks:=ks++[key x]) (by rw[List.nodup_append];refine⟨d,by simp,λa g b hb e=>?_⟩;simp at hb;subst hb;exact j (e▸g)) h.2;simpa using h2
theorem B9_ {ks:List Int} {x:i_} (h:okN ks x=true):x.id∉ks:=by unfold okN at h;simp only[YW,Bool.not_eq_true']at h;intro d;rw[gh_ d]at h;simp at h
theorem B8_ {ns ks:List Int} {x:l_} (h:okE ns ks x=true):x.id∉ks:=by unfold okE at h;simp only[YW,Bool.not_eq_true']at h;intro d;rw[gh_ d]at h;simp at h
theorem k9_ {α j o : Type} {R:α -> j -> Prop} {f:α -> o} {g:j -> o} (h:∀x y,R x y->g y=f x) {l:List α} {m:List j} (d:b1_ R l m):m.map g=l.map f:=by
 apply List.ext_getElem?;intro i;rw[List.getElem?_map,List.getElem?_map]
 cases hx:l[i]? with
 | none=>
  have h2:m[i]?=QK:=by rw[List.getElem?_eq_none_iff]at hx ⊢;rw[<-d.1];exact hx
  rw[h2];rfl
 | some x=>
  have hi:=c3_ hx;have p:i<m.length:=by rw[<-d.1];exact hi
  have h2:=XQ p;rw[h2];simp[h x _ (d.2 i x _ hx h2)]
theorem l9_ {α : Type} {key:α -> Int} {l m:List α} (h:l.Perm m) (d:(m.map key).Nodup):(l.map key).Nodup:=(h.map key).nodup_iff.2 d
theorem rg_ {α : Type} {key:α -> Int} {l:List α} (f:(l.map key).Nodup) {k:Nat} {x:α} (m:l[k]?=QJ x):key x∉(l.take k).map key:=by
 intro h;obtain⟨y,o,j⟩:=List.mem_map.1 h;obtain⟨i,hi⟩:=List.mem_iff_getElem?.1 o;have d:i<k:=by have:=c3_ hi;rw[UJ]at this;omega
 rw[List.getElem?_take_of_lt d]at hi;obtain⟨h1,rfl⟩:=List.getElem?_eq_some_iff.1 hi;obtain⟨h2,rfl⟩:=List.getElem?_eq_some_iff.1 m;unfold List.Nodup at f;rw[List.pairwise_iff_getElem]at f;have g:=f i k (by rw[List.length_map];exact h1) (by rw[List.length_map];exact h2) d;rw[List.getElem_map,List.getElem_map]at g;exact g j
theorem b1_.mem {α d : Type} {R:α -> d -> Prop} {l:List α} {m:List d} (h:b1_ R l m) {y:d} (j:y∈m):∃x,x∈l/\R x y:=by
 obtain⟨i,hi⟩:=List.mem_iff_getElem?.1 j;have g:i<l.length:=by rw[h.1];exact c3_ hi
 have f:=XQ g;exact⟨_,YZ f,h.2 i _ y f hi⟩
theorem E4_ {g:D_} {ns NS:List i_} (j:j3_ g) (m:aj_ okN i_.id [] g.nodes=true) (d:b1_ kb_ g.nodes ns) (o:NS.Perm ns):(NS.map i_.id).Nodup/\∀x,x∈NS->VI x.id:=by
 constructor
 ·refine l9_ o ?_;rw[k9_ (R:=kb_) (f:=i_.id) (g:=i_.id) (λx y h=>h.1) d];exact hz_ (λks x h=>B9_ h) List.nodup_nil m
 ·intro x q;obtain⟨y,r,p⟩:=d.mem (o.mem_iff.1 q);rw[p.1];exact (j.2.2.1 y r).2
theorem E3_ {g:D_} {es ES:List l_} (j:j3_ g) (o:aj_ (okE (g.nodes.map i_.id)) l_.id [] g.edges=true) (d:b1_ ka_ g.edges es) (p:ES.Perm es):(ES.map l_.id).Nodup/\∀x,x∈ES->VI x.id/\VI x.src/\VI x.dst:=by
 constructor
 ·refine l9_ p ?_;rw[k9_ (R:=ka_) (f:=l_.id) (g:=l_.id) (λx y h=>h.1) d];exact hz_ (λks x h=>B8_ h) List.nodup_nil o
 ·intro x q;obtain⟨y,r,m⟩:=d.mem (p.mem_iff.1 q);rw[m.1,m.2.1,m.2.2.1];exact (j.2.2.2 y r).2
theorem SlR.rd {α : Type} {R:bu_ α} {w:QV} {F:Nat->Prop} {l:List α} {sz n c:Nat} {A:Option Addr} (h:SlR sz R w F l (QQ A n c)):SRd sz R w F l A n:=by obtain⟨A',f,e,_,d⟩:=h;injection e with h1 h2 h3;subst h1 h2;exact d
theorem a4_.more {w:QV} {m:Nat} {ids:List Int} (h:a4_ w m ids) {x:Int} (p:VI x) (g:x∉ids) (r:ids.length<=100000000) :
    ∃w',(Instr.mapUpdate 141 (.map (QJ m)) (QY QU x) (QY QU ((ids.length:Nat):Int))).run QW w = .ok () w'/\a4_ w' m (ids++[x])/\Turn (λb=>b=m) w w':=by
 obtain⟨D,h1,h2⟩:=h;have f:keyOf QW 2 (.int .i64 x)=QJ (iz_ x):=keyOf_int_mk underlying2 p;obtain⟨w',o,j,d⟩:=h1.store xm_ underlying141 (by unfold maxLen;omega) f (plainElem_int (P:=QW) (e:=3) (q:=.i64) underlying3 (a:=((ids.length:Nat):Int)) (by simp[Lit.wf,IntKind.min,IntKind.max,IntKind.signed,IntKind.bits];omega));refine⟨w',o,⟨_,?_,ids_put xo_ xp_ h2 p g⟩,(Turn.of_grown d.grown).mono (λi _ h=>by injection h)⟩;rw[ZZ,List.length_singleton];exact j
theorem a4_.fresh {w:QV} {m:Nat} (h:w.heap[m]?=QJ (.map #[] 0)):a4_ w m []:=
 ⟨.map [],⟨#[],0,h,⟨by simp,stamped_empty 0,by simp⟩,XK _,rfl⟩,ids_empty⟩
theorem d1_.fresh {w:QV} {m f:Nat} (h:w.heap[m]?=QJ (.map #[] 0)) (hb:m<f):d1_ w f m 0 (ew_ []):=
 ⟨.map [],⟨#[],0,h,⟨by simp,stamped_empty 0,by simp⟩,XK _,rfl,hb,by simp,by simp⟩,λa d _ _=>rfl⟩
structure ee_ (w:QV) (z mid:Nat) (NS:List i_) (ES:List l_) (Ns Es:XJ) (ids eids:List Int) (n:Nat) (H:Int->Int->List Nat) (wr:QV):Prop where
 below:XW z w wr
 store:wr.heap[z+4]?=QJ (XX #[Ns,Es,.map (QJ (z+1)),.map (QJ (z+2)),.map (QJ (z+3))] 143 (0,0))
 nodes:SlR 3 NoR wr (λb=>z+6<=b/\b<mid) NS Ns
 edges:SlR 5 EdR wr (λb=>z+6<=b/\b<mid) ES Es
 at_:a4_ wr (z+3) ids
 types:a4_ wr (z+2) eids
 hops:d1_ wr mid (z+1) n H
 loc:z+6<=mid/\mid<=wr.heap.size
section
variable {w:QV} {z mid:Nat} {NS:List i_} {ES:List l_} {Ns Es:XJ} {ids eids ids' eids':List Int} {n n':Nat} {H H':Int->Int->List Nat} {wr w2:QV}
theorem ee_.upd (h:ee_ w z mid NS ES Ns Es ids eids n H wr) {S:Nat->Prop} (ht:Turn S wr w2) (f:∀b,S b->(z<=b/\b<z+4)\/mid<=b) (h1:a4_ w2 (z+3) ids') (h2:a4_ w2 (z+2) eids') (g:d1_ w2 mid (z+1) n' H'):ee_ w z mid NS ES Ns Es ids' eids' n' H' w2:=by
 obtain⟨m,o⟩:=h.loc
 have d:∀b,z+4<=b->b<mid->¬S b:=λb h1 h2 j=>by
  rcases f b j with h | h<;>omega
 exact⟨h.below.trans (ht.below (B:=z) (λi _ hi=>by rcases f i hi with h | h<;>omega) (by omega)),(ht.block _ (by omega) (d _ (by omega) (by omega))).trans h.store,h.nodes.turn NoR.good ht (λb hb=>by omega) (λb hb=>d b (by omega) hb.2),h.edges.turn EdR.good ht (λb hb=>by omega) (λb hb=>d b (by omega) hb.2),h1,h2,g,⟨m,ZX o ht.size⟩⟩
theorem ee_.on (h:ee_ w z mid NS ES Ns Es ids eids n H wr) (hb:XW wr.heap.size wr w2):ee_ w z mid NS ES Ns Es ids eids n H w2:=by have l:=h.loc;have ht:Turn (λb=>wr.heap.size<=b) wr w2:=Turn.of_below hb;have d:Turn (λ_=>False) wr w2:=⟨ht.os,ht.tape,ht.output,ht.size,λi hi _=>ht.block i hi (by omega)⟩;exact h.upd ht (λb hb=>.inr (by omega)) (h.at_.turn d id) (h.types.turn d id) (h.hops.turn d id (λ_ _=>id))
theorem ee_.done (h:ee_ w z mid NS ES Ns Es (NS.map i_.id) (ES.map l_.id) n (ew_ ES) wr) (d:n<=1000000):gb_ wr z (z+4) ⟨NS,ES⟩:=by obtain⟨f,g⟩:=h.loc;exact⟨Ns,Es,z+1,z+2,z+3,mid,n,h.store,h.nodes.mono NoR.good (λb hb=>⟨by omega,hb.2⟩),h.edges.mono EdR.good (λb hb=>⟨by omega,hb.2⟩),h.types,h.at_,h.hops,by omega,d⟩
theorem xx_ {w:QV} {b:Nat} {cs:Array XJ} {f:Nat×Nat} (h:w.heap[b]?=QJ (XX cs 74 f)):¬ga_ w b:=λd=>absurd (d _ _ _ h) (by decide)
theorem pz_ {j o:QV} {g q mid:Nat} {cs:Array XJ} {f:Nat×Nat} (h:j.heap[g]?=QJ (XX cs 74 f)) (m:g≠q) (ht:Turn (λb=>b=q\/(mid<=b/\ga_ j b)) j o):o.heap[g]?=QJ (XX cs 74 f):=
 (ht.block g (b_ h) (λd=>by
  rcases d with d | d
  ·exact m d
  ·exact xx_ h d.2)).trans h
theorem vi1:VI 1:=by unfold VI;decide
theorem vi0:VI 0:=by unfold VI;decide
theorem vim:VI (-1):=by unfold VI;decide
theorem ee_.spoke (h:ee_ w z mid NS ES Ns Es ids eids n H wr) (f:d1_ w2 mid (z+1) n' H') (ht:Turn (λb=>b=z+1\/(mid<=b/\ga_ wr b)) wr w2):ee_ w z mid NS ES Ns Es ids eids n' H' w2:=by
 have l:=h.loc;refine h.upd ht (λb hb=>?_) (h.at_.turn ht (λd=>?_)) (h.types.turn ht (λd=>?_)) f
 ·rcases hb with hb | hb
  ·exact .inl ⟨by omega,by omega⟩
  ·exact .inr hb.1
 ·rcases d with d | d
  ·omega
  ·have:=d.1;omega
 ·rcases d with d | d
  ·omega
  ·have:=d.1;omega
theorem f8_.next {z2:Nat} {nids:List Int} {ns NS:List i_} {l es ES:List l_} {ids:List Int} {k:Nat} {g w5:QV} (h:f8_ w z z2 nids ns Ns l ids k es Es wr)
    (u:SlR 3 NoR g (λb=>z+6<=b/\b<z2) NS Ns) (o:Turn (λb=>Ns.ownBlock=QJ b) wr g) (r:SlR 5 EdR w5 (λb=>z2+1<=b/\b<g.heap.size) ES Es) (f:Turn (λb=>Es.ownBlock=QJ b) g w5) :
    ee_ w z w5.heap.size NS ES Ns Es [] [] 0 (ew_ []) w5:=by
 have hz:z2<wr.heap.size:=h.set.lt;have y:=h.far;have v:wr.heap.size<=g.heap.size:=o.size;have x:g.heap.size<=w5.heap.size:=f.size;have q:∀b,Ns.ownBlock=QJ b->z+6<=b/\b<z2:=λb hb=>by obtain⟨cs,_,_,j,_⟩:=h.nodes;exact j b hb
 have m:∀b,Es.ownBlock=QJ b->z2+1<=b:=λb hb=>by obtain⟨cs,_,_,j,_⟩:=h.own;exact (j b hb).1
 have d:∀b,b<z+6->w5.heap[b]?=wr.heap[b]?:=λb hb=>(f.block b (by omega) (λp=>by have:=m b p;omega)).trans (o.block b (by omega) (λp=>by have:=(q b p).1;omega))
 refine⟨(h.below.trans (o.below (B:=z) (λi _ hi=>by have:=(q i hi).1;omega) (by omega))).trans (f.below (B:=z) (λi _ hi=>by have:=m i hi;omega) (by omega)),(d _ (by omega)).trans h.store,
  (u.turn NoR.good f (λb hb=>by omega) (λb hb p=>by have:=m b p;omega)).mono NoR.good (λb hb=>⟨hb.1,by omega⟩),r.mono EdR.good (λb hb=>⟨by omega,by omega⟩),
  a4_.fresh ((d _ (by omega)).trans h.m3),a4_.fresh ((d _ (by omega)).trans h.m2),d1_.fresh ((d _ (by omega)).trans h.m1) (by omega),by omega,XK _⟩
end
theorem sr_ (es:List l_) (e:l_):ew_ (es++[e])=(if e.dst=e.src then d4_ (d4_ (d4_ (ew_ es) e.src 1 es.length) e.dst (-1) es.length) e.src 0 es.length else d4_ (d4_ (d4_ (d4_ (ew_ es) e.src 1 es.length) e.dst (-1) es.length) e.src 0 es.length) e.dst 0 es.length):=by
 funext a d
 rw[Dt_];by_cases m:e.dst=e.src
 ·rw[iP_ m];unfold d4_ Lc_;rw[m];by_cases f:a=e.src
  ·subst f;by_cases h1:d=1
   ·subst h1;simp
   ·by_cases h2:d = -1
    ·subst h2;simp
    ·by_cases g:d=0
     ·subst g;simp
     ·simp[h1,h2,g]
  ·have j:e.src≠a:=λh=>f h.symm;simp[f,j]
 ·rw[iN_ m];unfold d4_ Lc_;by_cases f:a=e.src
  ·subst f;have o:e.src≠e.dst:=λh=>m h.symm;by_cases h1:d=1
   ·subst h1;simp[o]
   ·by_cases h2:d = -1
    ·subst h2;simp[m,o]
    ·by_cases g:d=0
     ·subst g;simp[o]
     ·simp[h1,h2,g]
  ·have j:e.src≠a:=λh=>f h.symm;by_cases hb:a=e.dst
   ·subst hb;by_cases h1:d=1
    ·subst h1;simp[f,j]
    ·by_cases h2:d = -1
     ·subst h2;simp[f]
     ·by_cases g:d=0
      ·subst g;simp[f]
      ·simp[h1,h2,g]
   ·have p:e.dst≠a:=λh=>hb h.symm;simp[f,j,hb,p]
end
section
open Go Go.RowKit
theorem Et_ (a b:g_) (u:S_ a<=1000000000) (F G:Nat->Prop) (d f:XJ) (w:QV) (h:∀g,F g->g<w.heap.size) (j:∀g,G g->g<w.heap.size) (h1:VRd w F a d) (h2:VRd w G b f) :
    Calls QW 22 #[d,f] w (n_ (cv_ a b) w):=by
 obtain⟨A,ca,rfl,_,la⟩:=h1.inv;obtain⟨B,cb,rfl,_,lb⟩:=h2.inv;have r:=dv_ a;exact nu_ a b A B ca cb w h j la lb (λw' m o p q=>Cg_ (V_ a.list+1) a.list b.list (by omega) F G A B _ _ ca cb w' (by omega) p q m o)
structure v2_ (w:QV) (ids:List Int) (s:XJ) (wr:QV):Prop where
 below:XW w.heap.size w wr
 own:x_ 2 1 IxR wr (λb=>w.heap.size<=b/\b<wr.heap.size) ids s
theorem v2_.on {w:QV} {ids:List Int} {s:XJ} {wr w2:QV} (h:v2_ w ids s wr) (hb:XW wr.heap.size wr w2):v2_ w ids s w2:=
 ⟨h.below.trans (hb.mono h.below.size),(h.own.turn IxR.good (Turn.of_below hb) (λb hb=>hb.2) (λb hb d=>by omega)).mono IxR.good (λb d=>⟨d.1,XZ d.2 hb.size⟩)⟩
theorem v2_.more {w:QV} {ids:List Int} {A:Option Addr} {c:Nat} {w5 w6:QV} {x:Int} {g4 c4:Nat} {cs:Nat->Array XJ} (hb:XW w.heap.size w w5) (q:∀i,i<ids.length->(cs i).size=1) (u:∀i x,ids[i]?=QJ x->IxR w5 (λb=>(w.heap.size<=b/\b<w5.heap.size)/\(Value.slice A ids.length c).ownBlock≠QJ b) x (cs i))
    (f:∀g,(Value.slice A ids.length c).ownBlock=QJ g->w.heap.size<=g/\g<w5.heap.size)
    (r:w6.ownsRow 0 2 1 (QQ (QJ ⟨g4,0,QK⟩) (ids.length+1) c4) (ids.length+1) (R_ cs ids.length++[QY QU x])) (d:w5.grownBy w6 (Value.slice A ids.length c).ownBlock) (o:(Value.slice A ids.length c).ownBlock=QJ g4\/w5.heap.size<=g4) (m:g4<w6.heap.size) :
    v2_ w (ids++[x]) (QQ (QJ ⟨g4,0,QK⟩) (ids.length+1) c4) w6:=by
 have p:=g7_ (R:=IxR) (F:=λb=>w.heap.size<=b/\b<w5.heap.size) (G:=λ_=>False) (sz:=1) (E:=2) (c:=#[QY QU x]) (x:=x) IxR.good q u rfl rfl (λb h=>h.elim) (λb h=>h.2) (λb h=>h.elim) r d o;have y:w5.heap.size<=w6.heap.size:=d.size;refine⟨?_,p.mono IxR.good (λb j=>?_)⟩
 ·have ht:=Turn.of_grown d
  exact hb.trans (ht.below (B:=w.heap.size) (λi _ hi=>by
   by_cases v:w.heap.size<=i
   ·exact v
   ·exact (f i hi.symm).1) hb.size)
 ·rcases j with h | h | h
  ·exact⟨h.1,by omega⟩
  ·exact h.elim
  ·subst h;refine⟨?_,m⟩;rcases o with h | h
   ·exact (f b h).1
   ·have:=hb.size;omega
end
section
open Go Go.RowKit Go.Maps Go.WideMaps
end
section
open Go Go.RowKit
theorem qg_ {α : Type} {R:bu_ α} (f:R.Good) {E sz q j lo k:Nat} {w5 w6 w7:QV} {xs:List α} {A3:Option Addr} {c3:Nat} {cs:Nat->Array XJ} {x:α} {c:Array XJ} {g7 c7:Nat}
    (T:q<lo) (N:lo<=w5.heap.size) (d:xs.length=k) (m:∀b,(Value.slice A3 k c3).ownBlock=QJ b->lo<=b/\b<w5.heap.size) (B:∀i,i<k->(cs i).size=sz) (J:∀i x,xs[i]?=QJ x->R w5 (λb=>(lo<=b/\b<w5.heap.size)/\(Value.slice A3 k c3).ownBlock≠QJ b) x (cs i))
    (g:XW w5.heap.size w5 w6) (u:R w6 (λb=>w5.heap.size<=b/\b<w6.heap.size) x c) (D:c.size=sz) (o:w6.grownBy w7 (Value.slice A3 k c3).ownBlock) (r:(Value.slice A3 k c3).ownBlock=QJ g7\/g7=w6.heap.size+1)
    (v:w7.ownsRow 0 E sz (QQ (QJ ⟨g7,0,QK⟩) (k+1) c7) (k+1) (R_ cs k++c.toList)) :
    x_ E sz R (w7.setCell ⟨q,j,QK⟩ (QQ (QJ ⟨g7,0,QK⟩) (k+1) c7)) (λb=>lo<=b/\b<(w7.setCell ⟨q,j,QK⟩ (QQ (QJ ⟨g7,0,QK⟩) (k+1) c7)).heap.size) (xs++[x]) (QQ (QJ ⟨g7,0,QK⟩) (k+1) c7) /\
     Turn (λb=>QJ b=(Value.slice A3 k c3).ownBlock\/b=q) w6 (w7.setCell ⟨q,j,QK⟩ (QQ (QJ ⟨g7,0,QK⟩) (k+1) c7)):=by
 have O:w5.heap.size<=w6.heap.size:=g.size;have S:w6.heap.size<=w7.heap.size:=o.size;have M:g7<w7.heap.size:=(v.lt g7 rfl).2
 have h:=g7_ (w5:=w6) (w6:=w7) (R:=R) (E:=E) (sz:=sz) (F:=λb=>lo<=b/\b<w5.heap.size) (G:=λb=>w5.heap.size<=b/\b<w6.heap.size) (l:=xs) (x:=x) (s:=QQ A3 k c3) (c:=c) (g4:=g7) (c4:=c7) (cs:=cs) f
  (λi hi=>B i (by omega)) (λi y L=>f.keep (J i y L) (λp I=>g.cell (by have:=I.1.2;omega))) u D (λb hb e=>by have:=(m b e).2;have:=hb.1;omega) (λb hb=>by have:=hb.2;omega) (λb hb=>hb.2) (by rw[d];exact v) o (by rcases r with e | e;exact .inl e;exact .inr (by omega))
 rw[d]at h
 have C:Turn (λb=>QJ b=(Value.slice A3 k c3).ownBlock\/b=q) w6 (w7.setCell ⟨q,j,QK⟩ (QQ (QJ ⟨g7,0,QK⟩) (k+1) c7)):=
  ((Turn.of_grown o).mono (λb _ hb=>.inl hb)).trans (((Turn.refl (λb=>b=q) w7).setCell (p:=⟨q,j,QK⟩) (.inr rfl) _).mono (λb _ hb=>.inr hb))
 refine⟨(h.turn f ((Turn.refl (λb=>b=q) w7).setCell (p:=⟨q,j,QK⟩) (.inr rfl) _) (λb hb=>?_) (λb hb e=>?_)).mono f (λb hb=>?_),C⟩
 ·rcases hb with hb | hb | hb
  ·omega
  ·omega
  ·omega
 ·rcases hb with hb | hb | hb
  ·omega
  ·omega
  ·rcases r with h1 | h1
   ·have:=(m g7 h1).1;omega
   ·omega
 ·show lo<=b/\b<(w7.setCell _ _).heap.size;simp only[World.size_setCell];rcases hb with hb | hb | hb
  ·omega
  ·omega
  ·rcases r with h1 | h1
   ·have:=(m g7 h1).1;omega
   ·omega
structure Pl1 (w:QV) (z:Nat) (ns:List i_) (Ns:XJ) (wr:QV):Prop where
 below:XW z w wr
 res:wr.heap[z]?=QJ (XX #[QQ QK 0 0,QQ QK 0 0] 54 (0,0))
 box:wr.heap[z+1]?=QJ (XX #[Ns,QQ QK 0 0] 54 (0,0))
 own:x_ 72 3 NoR wr (λb=>z+2<=b/\b<wr.heap.size) ns Ns
structure Pl2 (w:QV) (z z2:Nat) (ns:List i_) (es:List l_) (Ns Es:XJ) (wr:QV):Prop where
 below:XW z w wr
 res:wr.heap[z]?=QJ (XX #[QQ QK 0 0,QQ QK 0 0] 54 (0,0))
 box:wr.heap[z+1]?=QJ (XX #[Ns,Es] 54 (0,0))
 nodes:x_ 72 3 NoR wr (λb=>z+2<=b/\b<z2) ns Ns
 own:x_ 74 5 EdR wr (λb=>z2<=b/\b<wr.heap.size) es Es
 loc:z+2<=z2/\z2<=wr.heap.size
section
variable {w:QV} {z z2:Nat} {ns:List i_} {es:List l_} {Ns Es:XJ} {wr w2:QV}
theorem Pl1.on (h:Pl1 w z ns Ns wr) (hb:XW wr.heap.size wr w2):Pl1 w z ns Ns w2:=by have hz:=b_ h.box;exact⟨h.below.trans (hb.mono (by omega)),(hb.block _ (by omega)).trans h.res,(hb.block _ hz).trans h.box,(h.own.turn NoR.good (Turn.of_below hb) (λb hb=>hb.2) (λb hb h=>by omega)).mono NoR.good (λb d=>⟨d.1,XZ d.2 hb.size⟩)⟩
theorem Pl2.on (h:Pl2 w z z2 ns es Ns Es wr) (hb:XW wr.heap.size wr w2):Pl2 w z z2 ns es Ns Es w2:=by
 have hz:=b_ h.box;have f:=h.loc
 exact⟨h.below.trans (hb.mono (by omega)),(hb.block _ (by omega)).trans h.res,(hb.block _ hz).trans h.box,h.nodes.turn NoR.good (Turn.of_below hb) (λb hb=>by omega) (λb hb h=>by omega),
  (h.own.turn EdR.good (Turn.of_below hb) (λb hb=>hb.2) (λb hb h=>by omega)).mono EdR.good (λb d=>⟨d.1,XZ d.2 hb.size⟩),f.1,ZX f.2 hb.size⟩
theorem Pl1.next (h:Pl1 w z ns Ns wr):Pl2 w z wr.heap.size ns [] Ns (QQ QK 0 0) wr:=by have hz:=b_ h.box;exact⟨h.below,h.res,h.box,h.own,x_.nil ..,by omega,XK _⟩
end
theorem Pl1.more {w:QV} {z k:Nat} {ns:List i_} {A3:Option Addr} {c3:Nat} {w5 w6 w7:QV} {cs:Nat->Array XJ} {n':i_} {c:Array XJ} {g7 c7:Nat}
    (h:Pl1 w z ns (QQ A3 k c3) w5) (r:ns.length=k) (o:∀b,(Value.slice A3 k c3).ownBlock=QJ b->z+2<=b/\b<w5.heap.size) (u:∀i,i<k->(cs i).size=3) (L:∀i x,ns[i]?=QJ x->NoR w5 (λb=>(z+2<=b/\b<w5.heap.size)/\(Value.slice A3 k c3).ownBlock≠QJ b) x (cs i))
    (d:XW w5.heap.size w5 w6) (y:NoR w6 (λb=>w5.heap.size<=b/\b<w6.heap.size) n' c) (D:c.size=3) (p:w6.grownBy w7 (Value.slice A3 k c3).ownBlock) (I:(Value.slice A3 k c3).ownBlock=QJ g7\/g7=w6.heap.size+1)
    (J:w7.ownsRow 0 72 3 (QQ (QJ ⟨g7,0,QK⟩) (k+1) c7) (k+1) (R_ cs k++c.toList)) :
    Pl1 w z (ns++[n']) (QQ (QJ ⟨g7,0,QK⟩) (k+1) c7) (w7.setCell ⟨z+1,0,QK⟩ (QQ (QJ ⟨g7,0,QK⟩) (k+1) c7)):=by
 have hz:=b_ h.box;have m:=h.on d;have M:w5.heap.size<=w6.heap.size:=d.size;have N:w6.heap.size<=w7.heap.size:=p.size;obtain⟨C,v⟩:=qg_ (q:=z+1) (j:=0) (lo:=z+2) NoR.good (by omega) (by omega) r o u L d y D p I J;have g:∀b,b<z+2->QJ b≠(Value.slice A3 k c3).ownBlock:=λb hb e=>by have:=(o b e.symm).1;omega
 refine⟨m.below.trans (v.below (B:=z) (λi _ hi=>?_) (by omega)),(v.block _ (by omega) (λf=>?_)).trans m.res,?_,C⟩
 ·rcases hi with hi | hi
  ·have:=(o i hi.symm).1;omega
  ·omega
 ·rcases f with f | f
  ·exact g _ (by omega) f
  ·omega
 ·exact heap_setCell_same w7 (z+1) 0 _ _ _ ((p.block (z+1) (by omega) (g _ (by omega))).trans m.box)
theorem Pl2.more {w:QV} {z z2 k:Nat} {ns:List i_} {es:List l_} {Ns:XJ} {A3:Option Addr} {c3:Nat} {w5 w6 w7:QV} {cs:Nat->Array XJ} {n':l_} {c:Array XJ} {g7 c7:Nat}
    (h:Pl2 w z z2 ns es Ns (QQ A3 k c3) w5) (v:es.length=k) (p:∀b,(Value.slice A3 k c3).ownBlock=QJ b->z2<=b/\b<w5.heap.size) (y:∀i,i<k->(cs i).size=5) (M:∀i x,es[i]?=QJ x->EdR w5 (λb=>(z2<=b/\b<w5.heap.size)/\(Value.slice A3 k c3).ownBlock≠QJ b) x (cs i))
    (f:XW w5.heap.size w5 w6) (C:EdR w6 (λb=>w5.heap.size<=b/\b<w6.heap.size) n' c) (I:c.size=5) (u:w6.grownBy w7 (Value.slice A3 k c3).ownBlock) (J:(Value.slice A3 k c3).ownBlock=QJ g7\/g7=w6.heap.size+1)
    (L:w7.ownsRow 0 74 5 (QQ (QJ ⟨g7,0,QK⟩) (k+1) c7) (k+1) (R_ cs k++c.toList)) :
    Pl2 w z z2 ns (es++[n']) Ns (QQ (QJ ⟨g7,0,QK⟩) (k+1) c7) (w7.setCell ⟨z+1,1,QK⟩ (QQ (QJ ⟨g7,0,QK⟩) (k+1) c7)):=by
 have hz:=b_ h.box;have g:=h.loc;have o:=h.on f;have N:w5.heap.size<=w6.heap.size:=f.size;have O:w6.heap.size<=w7.heap.size:=u.size;obtain⟨D,r⟩:=qg_ (q:=z+1) (j:=1) (lo:=z2) EdR.good (by omega) g.2 v p y M f C I u J L;have m:∀b,b<z2->QJ b≠(Value.slice A3 k c3).ownBlock:=λb hb e=>by have:=(p b e.symm).1;omega
 refine⟨o.below.trans (r.below (B:=z) (λi _ hi=>?_) (by omega)),(r.block _ (by omega) (λd=>?_)).trans o.res,?_,o.nodes.turn NoR.good r (λb hb=>by omega) (λb hb d=>?_),D,g.1,by simp only[World.size_setCell];omega⟩
 ·rcases hi with hi | hi
  ·have:=(p i hi.symm).1;omega
  ·omega
 ·rcases d with d | d
  ·exact m _ (by omega) d
  ·omega
 ·exact heap_setCell_same w7 (z+1) 1 _ _ _ ((u.block (z+1) (by omega) (m _ (by omega))).trans o.box)
 ·rcases d with d | d
  ·exact m _ (by omega) d
  ·omega
def Bg_ (G:D_) (w:QV) (e:Ending) (w':QV):Prop:=
 ∃(A:Option Addr) (c:Nat) (B:Option Addr) (d:Nat) (ns:List i_) (es:List l_),e = YQ (.agg #[QQ A ns.length c,QQ B es.length d])/\XW w.heap.size w w'/\GrR w' (λb=>w.heap.size<=b/\b<w'.heap.size) ⟨ns,es⟩ (.agg #[QQ A ns.length c,QQ B es.length d])/\b1_ kb_ G.nodes ns/\b1_ ka_ G.edges es
theorem Ee_ (G:D_) (lo p:Nat) (cg c2:XJ) (mh mt ma mid n0:Nat) (w:QV) (a8:fy_ w lo p G cg c2 mh mt ma mid n0) (ac:j3_ G) (bj:∀n,n∈G.nodes->Fu_ n) (bi:∀e,e∈G.edges->Ft_ e) :
    Calls QW 77 #[YK (QJ ⟨p,0,QK⟩)] w (Bg_ G w):=by
 have b1:=q_ ac;have c8:=q_ bj;have c5:=q_ bi;obtain⟨AN,cN,bw,_,bg⟩:=a8.nodes;obtain⟨AE,cE,bu,_,bd⟩:=a8.edges;obtain⟨nN,aa⟩:=a_ G.nodes.length;obtain⟨X,a9⟩:=a_ G.edges.length;have cw:nN<=2000000:=by rw[<-aa.o];exact ac.1
 have cv:X<=2000000:=by rw[<-a9.o];exact ac.2.1
 rw[aa.o]at bw bg;rw[a9.o]at bu bd;subst bw bu;have b6:=q_ a8;obtain⟨z,HZ⟩:=a_ w.heap.size;have ca:=q_ (bg.mono NoR.good (F':=λb=>b<z) (λb hb=>by have:=a8.loc;have:=HZ.o;omega));have c4:=q_ (bd.mono EdR.good (F':=λb=>b<z) (λb hb=>by have:=a8.loc;have:=HZ.o;omega));have cm:p<z:=by rw[<-HZ.o];exact b_ a8.blk
 clear a8 ac bj bi bg bd;obtain⟨w1,ay⟩:=a_ ((w.alloc (XX #[QQ QK 0 0,QQ QK 0 0] 54)).alloc (XX #[QQ QK 0 0,QQ QK 0 0] 54));have br:=q_ (show XW w.heap.size w w1 from by rw[<-ay.o];exact F_ w _ _)
 have c9:=q_ (show Pl1 w z [] (QQ QK 0 0) w1 from by
  refine⟨by rw[<-HZ.o];exact br.o,?_,?_,x_.nil ..⟩
  ·rw[<-ay.o,Below.heap_alloc _ _ _ (by rw[<-HZ.o];simp),<-HZ.o];exact XU w _
  ·have:=XU (w.alloc (XX #[QQ QK 0 0,QQ QK 0 0] 54)) (XX #[QQ QK 0 0,QQ QK 0 0] 54);rw[ay.o]at this;simpa [HZ.o] using this)
 have x0:w1.cell? ⟨p,0,QK⟩=QJ (QQ AN nN cN):=(br.o.cell (b_ b6.o.blk)).trans (QX b6.o.blk 0);go_enter func77,ntmps77
 go_upto_region 2 with fail;rw[HZ.o,ay.o];go_wp2_with fail;clear x0;go_loopw [13] (λs wx=>∃(k:Nat) (xs:List i_) (Xs:XJ),k<=nN/\s = QY QU (k:Nat)/\Q_ (Pl1 w z xs Xs wx/\b1_ kb_ (G.nodes.take k) xs)) (λs _=>nN-(intOf s).toNat)
 case atStart=>exact⟨0,[],_,by omega,rfl,q_ ⟨c9.o,by rw[List.take_zero];exact b1_.nil _⟩⟩
 case round=>
  obtain⟨k,xs,Xs,hk,rfl,a5⟩:=hrel;have f:=q_ a5.o.1;have C:=q_ a5.o.2;clear a5;by_cases bo:k<nN
  ·obtain⟨x,hx⟩:∃x,G.nodes[k]?=QJ x:=⟨G.nodes[k]'(by rw[aa.o];exact bo),XQ _⟩;have HX:=q_ hx;have bk:=q_ (b1.o.2.2.1 x (YZ hx));have bh:=q_ (c8.o x (YZ hx));obtain⟨ad,A1,d1,A2,d2,rfl,bf,bx,ck,bn,q0,q1,q2⟩:=jk_ (ca.o.under NoR.good f.o.below (λb hb=>hb)) hx;have m:=q_ bx;clear hx bf bx ck bn;obtain⟨id,a3⟩:=a_ x.id;obtain⟨m1,cd⟩:=a_ x.labels.length;obtain⟨m2,b8⟩:=a_ x.props.length;rw[a3.o]at q0 m;rw[cd.o]at q1 m;rw[b8.o]at q2 m;obtain⟨zn,ah⟩:=a_ wr.heap.size;obtain⟨w5,a2⟩:=a_ (wr.alloc (XX #[QY QU id,QQ A1 m1 d1,QQ A2 m2 d2] 72));have ae:=q_ (show XW wr.heap.size wr w5 from by rw[<-a2.o];exact (XV _ _).alloc (XK _) _);have S:=q_ (show w5.heap[zn]?=QJ (XX #[QY QU id,QQ A1 m1 d1,QQ A2 m2 d2] 72 (0,0)) from by rw[<-a2.o,<-ah.o];exact XU wr _);have j:=q_ (f.o.on ae.o);have d:xs.length=k:=by rw[<-C.o.1,UJ,aa.o];omega
   have ao:=q_ d;obtain⟨A3,c3,h3⟩:=j.o.own.form;rw[d]at h3;subst h3;have c0:=q_ (show XW z w w5 from j.o.below);have M:=q_ (show z+1<w5.heap.size from b_ j.o.box);have bp:=q_ (xw_ x bk.o.1 bh.o (λb=>b<z) _ w5.drew (λb hb=>by show b<w5.heap.size;have:=M.o;omega) (NoR.good.keep m.o (w':=w5.drew) (λq hq=>(ae.o.cell (XZ hq (by have:=b_ f.o.box;omega))))));obtain⟨cs,L,a4,ai,hr⟩:=j.o.own;rw[d]at L a4;have aq:=q_ L;have Y:=q_ (show ∀b,(Value.slice A3 k c3).ownBlock=QJ b->z+2<=b/\b<w5.heap.size from ai);have T:=q_ (And.intro a4 hr);have g0:w5.drew.cell? ⟨z+1,0,QK⟩=QJ (QQ A3 k c3):=QX j.o.box 0;have n0:w5.drew.cell? ⟨zn,0,QK⟩=QJ (QY QU id):=QX S.o 0;have n1:w5.drew.cell? ⟨zn,1,QK⟩=QJ (QQ A1 m1 d1):=QX S.o 1;have n2:w5.drew.cell? ⟨zn,2,QK⟩=QJ (QQ A2 m2 d2):=QX S.o 2;clear d L a4 ai hr f;obtain⟨i0,bl,au,av,aw⟩:=info_parts qj_;have e1:(0:Int)<=k:=by omega
   have e2:(k:Int)<nN:=by omega
   go_upto_region 5 with fail;rw[ah.o,a2.o];clear q0 q1 q2;go_region_law (first | (refine step_append_lies _ rfl _ _ 51 rfl 0 72 i0 (.agg #[QY QU 0,QQ none 0 0,QQ none 0 0]) 3 56 underlying51 bl au av aw rfl (by decide) (QQ A3 k c3) k (R_ cs k) rfl (by exact ab.o.alloc _) ⟨w6.heap.size,0,none⟩ 1 1 [QY QU id,QQ A6 q6 c6,QQ J N r] rfl rfl (World.news_of_block (cs:=#[QY QU id,QQ A6 q6 c6,QQ J N r]) (by exact NB.o)) ap.o (by omega) (by unfold maxLen;omega) (by omega) (Nat.zero_le _) (w6.heap.size+1) (by exact b5.o) (λg7 c7 w7 am B ak _=>?_);have b4:=q_ am;have ag:=q_ (show w6.grownBy w7 (Value.slice A3 k c3).ownBlock from ak_ (w:=w6) (o:=XX #[QY QU id,QQ A6 q6 c6,QQ J N r] 72) ⟨B.os,B.tape,B.output,B.size,B.block⟩);have b2:=q_ (show (Value.slice A3 k c3).ownBlock=some g7\/g7=w6.heap.size+1 from ak);have af:=q_ ((ag.o.block (z+1) (by have:=a1.o;omega) (λe=>by have:=Y.o (z+1) e.symm;omega)).trans a0.o);have f7:w7.frozen? ⟨z+1,0,none⟩=false:=YY af.o 0;have ci:w7.cell? ⟨z+1,0,none⟩=some (QQ A3 k c3):=QX af.o 0;clear am B ak) | (go_simp;go_at_call 91;(with_reducible refine bp.o.mono ?_);rintro e w6 ⟨cc,n',rfl,D,y,a7⟩;have Z:=q_ a7;obtain⟨L6,P6,rfl,⟨A6,c6,rfl,_,_⟩,J,r,rfl,_,_⟩:=a7;obtain⟨q6,ce⟩:=a_ n'.labels.length;obtain⟨N,b9⟩:=a_ n'.props.length;rw[ce.o,b9.o]at Z ⊢;rw[y.1,a3.o]at Z ⊢;have b0:=q_ D;have ar:=q_ y;have a1:=q_ (show z+1<w6.heap.size from by have h1:w5.heap.size<=w6.heap.size:=D.size;have:=M.o;omega);have ab:=q_ ((Turn.of_below D).owns aq.o (λg hg h=>by have:=Y.o g hg;have h2:w5.heap.size<=g:=h;omega));have a0:=q_ ((D.block (z+1) (by show z+1<w5.heap.size;exact M.o)).trans j.o.box);have bc:w6.cell? ⟨z+1,0,none⟩=some (QQ A3 k c3):=QX a0.o 0;have ch:(w6.alloc (XX #[QY QU id,QQ A6 q6 c6,QQ J N r] 72)).cell? ⟨z+1,0,none⟩=some (QQ A3 k c3):=(World.cell?_alloc_lt w6 _ _ (by show z+1<_;exact a1.o)).trans bc;have ap:=q_ (show ∀u∈([QY QU id,QQ A6 q6 c6,QQ J N r]:List XJ),u.oneCell'=true from λu hu=>by simp at hu;rcases hu with rfl | rfl | rfl<;>rfl);have NB:=q_ (XU w6 (XX #[QY QU id,QQ A6 q6 c6,QQ J N r] 72));have b5:=q_ (show (w6.alloc (XX #[QY QU id,QQ A6 q6 c6,QQ J N r] 72)).heap.size=w6.heap.size+1 by simp);clear D y))
   all_goals (
    have w1:IntKind.i64.wrap ((k:Int)+1)=(k:Int)+1:=YU _ (by omega);go_wp2_with fail;go_roundw)
   all_goals first
    | (case measure=>simp[intOf];omega)
    | (case rel=>
        refine⟨k+1,xs++[n'],QQ (QJ ⟨g7,0,QK⟩) (k+1) c7,by omega,by go_num,q_ ⟨?_,by rw[f_ HX.o];exact C.o.snoc ar.o⟩⟩;exact Pl1.more j.o ao.o Y.o T.o.1 T.o.2 (b2_ b0.o) Z.o rfl ag.o b2.o b4.o)
  ·have a6:nN=k:=by omega
   have az:=q_ (show b1_ kb_ G.nodes xs from by have h:=C.o;rw[YJ (by rw[aa.o,a6];exact XK _)]at h;exact h);have d:xs.length=k:=by rw[<-az.o.1,aa.o];exact a6
   obtain⟨O,U,hX⟩:=f.o.own.form;rw[d]at hX;subst hX;have b3:=q_ d;have aj:=f.o.next;obtain⟨ns,bz⟩:∃ns,ns=xs:=⟨xs,rfl⟩;rw[<-bz]at aj az b3;obtain⟨z2,cf⟩:=a_ wr.heap.size;rw[cf.o]at aj;obtain⟨k1,bm⟩:∃k1,k1=k:=⟨k,rfl⟩;rw[<-bm]at aj b3;have bs:=q_ aj;have cr:=q_ bm;have x1:wr.cell? ⟨p,1,QK⟩=QJ (QQ AE X cE):=(bs.o.below.cell cm).trans (QX b6.o.blk 1);clear d bz f aj C bm;subst a6;go_upto_region 7 with fail;go_wp2_with fail;clear x1;go_loopw [30] (λs wx=>∃(k:Nat) (xs:List l_) (Xs:XJ),k<=X/\s = QY QU (k:Nat)/\Q_ (Pl2 w z z2 ns xs (QQ O k1 U) Xs wx/\b1_ ka_ (G.edges.take k) xs)) (λs _=>X-(intOf s).toNat)
   case atStart=>exact⟨0,[],_,by omega,rfl,q_ ⟨bs.o,by rw[List.take_zero];exact b1_.nil _⟩⟩
   case round=>
    obtain⟨k,xs,Xs,hk,rfl,a5⟩:=hrel;have f:=q_ a5.o.1;have C:=q_ a5.o.2;clear a5;by_cases bo:k<X
    ·obtain⟨x,hx⟩:∃x,G.edges[k]?=QJ x:=⟨G.edges[k]'(by rw[a9.o];exact bo),XQ _⟩;have HX:=q_ hx;have bk:=q_ (b1.o.2.2.2 x (YZ hx));have bh:=q_ (c5.o x (YZ hx));obtain⟨ad,A2,d2,rfl,bf,bt,bn,q0,q1,q2,q3,q4⟩:=jf_ (c4.o.under EdR.good f.o.below (λb hb=>hb)) hx;have m:=q_ bt;clear hx bf bt bn;obtain⟨id,a3⟩:=a_ x.id;obtain⟨src,ba⟩:=a_ x.src;obtain⟨dst,b7⟩:=a_ x.dst;obtain⟨I,bb⟩:=a_ x.type;obtain⟨m2,b8⟩:=a_ x.props.length;rw[a3.o]at q0 m;rw[ba.o]at q1 m;rw[b7.o]at q2 m;rw[bb.o]at q3 m;rw[b8.o]at q4 m;obtain⟨zn,ah⟩:=a_ wr.heap.size;obtain⟨w5,a2⟩:=a_ (wr.alloc (XX #[QY QU id,QY QU src,QY QU dst,QZ I,QQ A2 m2 d2] 74));have ae:=q_ (show XW wr.heap.size wr w5 from by rw[<-a2.o];exact (XV _ _).alloc (XK _) _);have S:=q_ (show w5.heap[zn]?=QJ (XX #[QY QU id,QY QU src,QY QU dst,QZ I,QQ A2 m2 d2] 74 (0,0)) from by rw[<-a2.o,<-ah.o];exact XU wr _);have j:=q_ (f.o.on ae.o);have d:xs.length=k:=by rw[<-C.o.1,UJ,a9.o];omega
     have ao:=q_ d;obtain⟨A3,c3,h3⟩:=j.o.own.form;rw[d]at h3;subst h3;have c0:=q_ (show XW z w w5 from j.o.below);have M:=q_ (show z+1<w5.heap.size from b_ j.o.box);have bp:=q_ (wq_ x bk.o.1 bh.o (λb=>b<z) _ w5.drew (λb hb=>by show b<w5.heap.size;have:=M.o;omega) (EdR.good.keep m.o (w':=w5.drew) (λq hq=>(ae.o.cell (XZ hq (by have:=b_ f.o.box;omega))))));obtain⟨cs,L,a4,ai,hr⟩:=j.o.own;rw[d]at L a4;have aq:=q_ L;have Y:=q_ (show ∀b,(Value.slice A3 k c3).ownBlock=QJ b->z2<=b/\b<w5.heap.size from ai);have T:=q_ (And.intro a4 hr);have g0:w5.drew.cell? ⟨z+1,1,QK⟩=QJ (QQ A3 k c3):=QX j.o.box 1;have n0:w5.drew.cell? ⟨zn,0,QK⟩=QJ (QY QU id):=QX S.o 0;have n1:w5.drew.cell? ⟨zn,1,QK⟩=QJ (QY QU src):=QX S.o 1;have n2:w5.drew.cell? ⟨zn,2,QK⟩=QJ (QY QU dst):=QX S.o 2;have n3:w5.drew.cell? ⟨zn,3,QK⟩=QJ (QZ I):=QX S.o 3;have n4:w5.drew.cell? ⟨zn,4,QK⟩=QJ (QQ A2 m2 d2):=QX S.o 4;have co:z+2<=z2:=j.o.loc.1;clear d L a4 ai hr f;obtain⟨i0,bl,au,av,aw⟩:=info_parts qi_;have e1:(0:Int)<=k:=by omega
     have e2:(k:Int)<X:=by omega
     go_upto_region 10 with fail;rw[ah.o,a2.o];clear q0 q1 q2 q3 q4;go_region_law (first | (refine step_append_lies _ rfl _ _ 52 rfl 0 74 i0 (.agg #[QY QU 0,QY QU 0,QY QU 0,QZ ⟨#[]⟩,QQ none 0 0]) 5 64 underlying52 bl au av aw rfl (by decide) (QQ A3 k c3) k (R_ cs k) rfl (by exact ab.o.alloc _) ⟨w6.heap.size,0,none⟩ 1 1 [QY QU id,QY QU src,QY QU dst,QZ I,QQ J N r] rfl rfl (World.news_of_block (cs:=#[QY QU id,QY QU src,QY QU dst,QZ I,QQ J N r]) (by exact NB.o)) ap.o (by omega) (by unfold maxLen;omega) (by omega) (Nat.zero_le _) (w6.heap.size+1) (by exact b5.o) (λg7 c7 w7 am B ak _=>?_);have b4:=q_ am;have ag:=q_ (show w6.grownBy w7 (Value.slice A3 k c3).ownBlock from ak_ (w:=w6) (o:=XX #[QY QU id,QY QU src,QY QU dst,QZ I,QQ J N r] 74) ⟨B.os,B.tape,B.output,B.size,B.block⟩);have b2:=q_ (show (Value.slice A3 k c3).ownBlock=some g7\/g7=w6.heap.size+1 from ak);have af:=q_ ((ag.o.block (z+1) (by have:=a1.o;omega) (λe=>by have:=Y.o (z+1) e.symm;omega)).trans a0.o);have f7:w7.frozen? ⟨z+1,1,none⟩=false:=YY af.o 1;have ci:w7.cell? ⟨z+1,1,none⟩=some (QQ A3 k c3):=QX af.o 1;clear am B ak) | (go_simp;go_at_call 93;(with_reducible refine bp.o.mono ?_);rintro e w6 ⟨cc,n',rfl,D,y,a7⟩;have Z:=q_ a7;obtain⟨P6,rfl,J,r,rfl,_,_⟩:=a7;obtain⟨N,b9⟩:=a_ n'.props.length;rw[b9.o]at Z ⊢;rw[y.1,y.2.1,y.2.2.1,y.2.2.2.1,a3.o,ba.o,b7.o,bb.o]at Z ⊢;have b0:=q_ D;have ar:=q_ y;have a1:=q_ (show z+1<w6.heap.size from by have h1:w5.heap.size<=w6.heap.size:=D.size;have:=M.o;omega);have ab:=q_ ((Turn.of_below D).owns aq.o (λg hg h=>by have:=Y.o g hg;have h2:w5.heap.size<=g:=h;omega));have a0:=q_ ((D.block (z+1) (by show z+1<w5.heap.size;exact M.o)).trans j.o.box);have bc:w6.cell? ⟨z+1,1,none⟩=some (QQ A3 k c3):=QX a0.o 1;have ch:(w6.alloc (XX #[QY QU id,QY QU src,QY QU dst,QZ I,QQ J N r] 74)).cell? ⟨z+1,1,none⟩=some (QQ A3 k c3):=(World.cell?_alloc_lt w6 _ _ (by show z+1<_;exact a1.o)).trans bc;have ap:=q_ (show ∀u∈([QY QU id,QY QU src,QY QU dst,QZ I,QQ J N r]:List XJ),u.oneCell'=true from λu hu=>by simp at hu;rcases hu with rfl | rfl | rfl | rfl | rfl<;>rfl);have NB:=q_ (XU w6 (XX #[QY QU id,QY QU src,QY QU dst,QZ I,QQ J N r] 74));have b5:=q_ (show (w6.alloc (XX #[QY QU id,QY QU src,QY QU dst,QZ I,QQ J N r] 74)).heap.size=w6.heap.size+1 by simp);clear D y))
     all_goals (
      have w1:IntKind.i64.wrap ((k:Int)+1)=(k:Int)+1:=YU _ (by omega);go_wp2_with fail;go_roundw)
     all_goals first
      | (case measure=>simp[intOf];omega)
      | (case rel=>
          refine⟨k+1,xs++[n'],QQ (QJ ⟨g7,0,QK⟩) (k+1) c7,by omega,by go_num,q_ ⟨?_,by rw[f_ HX.o];exact C.o.snoc ar.o⟩⟩;exact Pl2.more j.o ao.o Y.o T.o.1 T.o.2 (b2_ b0.o) Z.o rfl ag.o b2.o b4.o)
    ·have a6:X=k:=by omega
     have bq:=q_ (show b1_ ka_ G.edges xs from by have h:=C.o;rw[YJ (by rw[a9.o,a6];exact XK _)]at h;exact h);have d:xs.length=k:=by rw[<-bq.o.1,a9.o];exact a6
     obtain⟨V,W,hX⟩:=f.o.own.form;rw[d]at hX;subst hX;have c1:=q_ d;have ct:wr.cell? ⟨z+1,0,QK⟩=QJ (QQ O k1 U):=QX f.o.box 0;have cu:wr.cell? ⟨z+1,1,QK⟩=QJ (QQ V k W):=QX f.o.box 1;have r0:wr.cell? ⟨z,0,QK⟩=QJ (QQ QK 0 0):=QX f.o.res 0;have r1:wr.cell? ⟨z,1,QK⟩=QJ (QQ QK 0 0):=QX f.o.res 1;have y0:wr.frozen? ⟨z,0,QK⟩=false:=YY f.o.res 0;have y1:wr.frozen? ⟨z,1,QK⟩=false:=YY f.o.res 1;clear d C;subst a6;go_upto_region 12 with fail;go_wp2_with fail;have h1:=heap_setCell_same _ z 1 _ _ (QQ V X W) (heap_setCell_same _ z 0 _ _ (QQ O k1 U) f.o.res);have ht:=(((Turn.refl (λb=>b=z) wr).setCell (p:=⟨z,0,QK⟩) (.inr rfl) (QQ O k1 U)).setCell (p:=⟨z,1,QK⟩) (.inr rfl) (QQ V X W));obtain⟨W9,cb⟩:=a_ ((wr.setCell ⟨z,0,QK⟩ (QQ O k1 U)).setCell ⟨z,1,QK⟩ (QQ V X W));rw[cb.o]at h1 ht ⊢;have k0:W9.cell? ⟨z,0,QK⟩=QJ (QQ O k1 U):=QX h1 0;have cn:W9.cell? ⟨z,1,QK⟩=QJ (QQ V X W):=QX h1 1;have cq:=f.o.loc;have cl:XW w.heap.size w W9:=by rw[HZ.o];exact f.o.below.trans (ht.below (λi _ h=>by omega) (by have:=b_ f.o.box;omega))
     have cj:GrR W9 (λb=>w.heap.size<=b/\b<W9.heap.size) ⟨ns,xs⟩ (.agg #[QQ O k1 U,QQ V X W]):=by
      refine⟨_,_,rfl,?_,?_⟩
      ·refine ((f.o.nodes.turn NoR.good ht (λb hb=>by omega) (λb hb=>by omega)).rd NoR.good).mono NoR.good (λb hb=>⟨by have:=HZ.o;omega,by have:=ht.size;omega⟩)
      ·refine ((f.o.own.turn EdR.good ht (λb hb=>hb.2) (λb hb=>by omega)).rd EdR.good).mono EdR.good (λb hb=>⟨by have:=HZ.o;omega,by have:=ht.size;omega⟩)
     rw [<- b3.o, <- c1.o] at *;refine ZV (v:=.agg #[QQ O ns.length U,QQ V xs.length W]) (by simp[results,results77,go_sem,k0,cn]) rfl ⟨O,U,V,W,ns,xs,rfl,cl,cj,az.o,bq.o⟩
end
section
open Go Go.RowKit Go.Shelf Go.Sort Go.Proofs
def WT (w:QV) (s:XJ):Prop:=∃n xs,w.ownsRow 0 9 1 s n xs/\n<=2000000
theorem WT.turn {S:Nat->Prop} {w w':QV} {s:XJ} (h:WT w s) (ht:Turn S w w') (d:∀g,s.ownBlock=QJ g->¬S g):WT w' s:=by obtain⟨n,xs,h1,h2⟩:=h;exact⟨n,xs,ht.owns h1 d,h2⟩
theorem WT.nil (w:QV):WT w (QQ QK 0 0):=⟨0,[],World.ownsRow_nil ..,by decide⟩
theorem WT.lt {w:QV} {s:XJ} (h:WT w s):∀g,s.ownBlock=QJ g->g<w.heap.size:=λg d=>by
 obtain⟨n,xs,h1,_⟩:=h;exact (h1.lt g d).2
end
section
open Go Go.RowKit
theorem wh_ (v:g_) (q:S_ v<=2000000) (F:Nat->Prop) (u:XJ) (w:QV) (j:∀g,F g->g<w.heap.size) (p:VRd w F v u) :
    Calls QW 44 #[u] w (Fp_ v w):=by
 obtain⟨A,d,rfl,_,m⟩:=p.inv;have hz:=dv_ v;refine (nc_ v A d w j m (λw' h1 h2=>wi_ (V_ v.list+1) v.list (by omega) (by omega) F A _ d w' h2 h1)).mono ?_;rintro e w' ⟨s,rfl,hb,o⟩;obtain⟨B,cb,rfl,f,h⟩:=o.rd;exact⟨B,cb,rfl,hb,VRd.of_list f h⟩
def Kb_ (l:List J_) (w:QV) (e:Ending) (w':QV):Prop:=
 ∃s,e = YQ s/\XW w.heap.size w w'/\x_ 69 7 PaR w' (λb=>w.heap.size<=b/\b<w'.heap.size) l s
def Kc_ (l:List ByteArray) (w:QV) (e:Ending) (w':QV):Prop:=
 ∃s,e = YQ s/\XW w.heap.size w w'/\x_ 9 1 TxR w' (λb=>w.heap.size<=b/\b<w'.heap.size) l s
theorem C9_ (l:List ByteArray) (F:Nat->Prop) (A:Option Addr) (n y:Nat) (hn:n<=10000000) (w:QV) (D:∀g,F g->g<w.heap.size) (u:SRd 1 TxR w F l A n) :
    Calls QW 80 #[QQ A n y] w (Kc_ l w):=by
 have r:=q_ u.1;have HF:=q_ D
 cases A with
 | none=>
  have h0:l=[]:=by
   rcases Nat.eq_zero_or_pos n with h | h
   ·exact UK (by rw[<-r.o,h])
   ·obtain⟨ad,e,_⟩:=u.2 h
    cases e
  have J:n=0:=by rw[r.o,h0];rfl
  subst J;have O:=q_ h0;clear u D h0;go_enter func80,ntmps80
  go_wp2_with fail;go_ret;rw[O.o];exact⟨QQ QK 0 0,rfl,XV _ _,x_.nil _ _ _ _ _⟩
 | some ad=>
  obtain⟨cs,q⟩:=u.fn;have m:∀i,i<n->∃x,l[i]?=QJ x:=λi hi=>⟨l[i]'(by rw[<-r.o];exact hi),XQ _⟩;have C:=q_ (λi (hi:i<n)=>by obtain⟨x,p⟩:=m i hi;exact (show (cs i).size=1 from (q i x p).2.1));have h1:=q_ (qe_ (n:=n) (cs:=cs) λi hi=>by obtain⟨x,p⟩:=m i hi;exact TxR.one (q i x p).2.2.2)
  have v:=q_ (kq_ (w:=w) (ad:=ad) C.o (λi hi j Y=>by
   obtain⟨x,p⟩:=m i hi;obtain⟨g1,_,W,_⟩:=q i x p;exact W j Y) (by decide))
  have V:=q_ (λi x p=>(q i x p).2.2.2);clear u D q m;obtain⟨i0,hi,L,M,N⟩:=info_parts qk_;have B:=q_ (World.ownsRow_nil w w.heap.size 9 1);go_enter func80,ntmps80
  go_wp2_with (at_builtin;refine wpList_append_own _ rfl _ _ 67 rfl w.heap.size 9 i0 (QZ ⟨#[]⟩) 1 16 underlying67 hi L M N rfl (by decide) (QQ QK 0 0) 0 [] rfl B.o ad n y (R_ cs n) rfl (ap_ C.o) v.o h1.o (by unfold maxLen;omega) (by omega) (XK _) ?_;intro v' w1 d f I;have U:=q_ d;have T:=q_ f;clear d f I)
  go_ret;have d:=U.o;have f:=T.o;simp only[VQ,List.nil_append]at d;have S:XW w.heap.size w w1:=(XV _ w).grown f (XK _) (by intro k Z;simp[Value.ownBlock]at Z);refine⟨v',rfl,S,cs,by rw[<-r.o];exact l7_ d (Nat.zero_le _),λi hi=>C.o i (by rw[r.o];exact hi),λg X=>d.lt g X,λi x p=>?_⟩;exact V.o i x p
theorem sl_ (l:List J_) (Y:∀p,p∈l->zf_ p) (af:l.length<=2000000) (F:Nat->Prop) (A:Option Addr) (n ar:Nat) (w:QV) (hF:∀g,F g->g<w.heap.size) (hl:SRd 7 PaR w F l A n) :
    Calls QW 81 #[QQ A n ar] w (Kb_ l w):=by
 have HL:=q_ hl;have HF:=q_ hF;have ab:=q_ Y;have a0:=q_ hl.1;have b2:n<=2000000:=by rw[hl.1];exact af
 clear hl hF Y;go_enter func81,ntmps81
 go_wp2_with fail;go_loopw [3,4] (λs3 s8 wr=>∃k:Nat,k<=n/\s8 = QY QU (k:Nat)/\Q_ (XW w.heap.size w wr)/\Q_ (x_ 69 7 PaR wr (λb=>w.heap.size<=b/\b<wr.heap.size) (l.take k) s3)) (λ_ s8 _=>n-(intOf s8).toNat)
 case atStart=>exact⟨0,by omega,rfl,q_ (XV _ _),q_ (x_.nil ..)⟩
 case round=>
  obtain⟨k,hk,rfl,X,T⟩:=hrel;by_cases ay:k<n
  ·obtain⟨x,hx⟩:∃x,l[k]?=QJ x:=⟨l[k]'(by rw[<-a0.o];exact ay),XQ _⟩;have HX:=q_ hx;have au:=q_ (ab.o x (YZ hx));have a2:(l.take k).length=k:=by rw[UJ];have:=a0.o;omega
   obtain⟨A3,c3,W⟩:=T.o.form;rw[a2]at W;subst W;have N:=q_ a2;obtain⟨ad,s,rfl,a7,hv,c0,c1,c2,a6,c4,c5,c6⟩:=l8_ (HL.o.under PaR.good X.o HF.o) hx;obtain⟨B,cb,J,_,_⟩:=hv.inv;injection J with J;obtain rfl:s = QQ B x.v.list.length cb:=by have:=congrArg (λa:Array XJ=>a[5]?) J;simpa [c_] using this
   have HV:=q_ hv;clear hx hv J a2;obtain⟨L,C⟩:=a_ x.v.list.length;rw[C.o]at c6 HV;obtain⟨z,Hz⟩:=a_ wr.heap.size;obtain⟨w5,d⟩:=a_ wr;have r:=q_ (show XW wr.heap.size wr w5 from by rw[<-d.o];exact XV _ _);have ao:=q_ (show w5.heap.size=z from by rw[<-d.o,<-Hz.o]);have aj:=q_ (show ad.block<w5.heap.size from by rw[<-d.o];exact XZ (HF.o _ a7) X.o.size);have e1:(0:Int)<=k:=by omega
   have e2:(k:Int)<n:=by omega
   go_upto_region 5 with fail;rw[d.o];have a1:w.heap.size<=wr.heap.size:=X.o.size;have a8:=q_ (wh_ x.v au.o.2 F _ w5.drew (λg Z=>XZ (HF.o g Z) (ZX a1 r.o.size)) ((HV.o.under r.o (λg Z=>XZ (HF.o g Z) a1)).drewN 1));unfold c_ at a8;have ak:=q_ c0;have d0:w5.drew.cell? (ad.add (k*7))=QJ (QZ x.key):=by rw[<-d.o];exact c0
   have d1:w5.drew.cell? ⟨(ad.add (k*7)).block,(ad.add (k*7)).off+1,QK⟩=QJ (QY QU x.v.kind):=by rw[<-d.o];exact c1
   have d2:w5.drew.cell? ⟨(ad.add (k*7)).block,(ad.add (k*7)).off+2,QK⟩=QJ (XY x.v.truth):=by rw[<-d.o];exact c2
   have d3:w5.drew.cell? ⟨(ad.add (k*7)).block,(ad.add (k*7)).off+3,QK⟩=QJ (QY QU x.v.num):=by rw[<-d.o];exact a6
   have d4:w5.drew.cell? ⟨(ad.add (k*7)).block,(ad.add (k*7)).off+4,QK⟩=QJ (QZ x.v.text):=by rw[<-d.o];exact c4
   have d5:w5.drew.cell? ⟨(ad.add (k*7)).block,(ad.add (k*7)).off+5,QK⟩=QJ (QZ x.v.extra):=by rw[<-d.o];exact c5
   have d6:w5.drew.cell? ⟨(ad.add (k*7)).block,(ad.add (k*7)).off+6,QK⟩=QJ (QQ B L cb):=by rw[<-d.o];exact c6
   obtain⟨cs,q,S,m,hr⟩:=(T.o.turn PaR.good (Turn.of_below r.o) (λb hb=>hb.2) (λb hb h=>by obtain⟨_,h1⟩:=hb;omega));rw[N.o]at q S;have ae:=q_ q;have M:=q_ (And.intro S (And.intro m hr));clear c0 c1 c2 a6 c4 c5 c6 q S m hr a7;obtain⟨i0,av,ag,ah,ai⟩:=info_parts xd_;go_region_law (first | (refine step_append_lies _ rfl _ _ 70 rfl 0 69 i0 (.agg #[QZ ⟨#[]⟩,QY QU 0,XY false,QY QU 0,QZ ⟨#[]⟩,QZ ⟨#[]⟩,QQ none 0 0]) 7 96 underlying70 av ag ah ai rfl (by decide) (QQ A3 k c3) k (R_ cs k) rfl (by exact a4.o.alloc _) ⟨w6.heap.size,0,none⟩ 1 1 [QZ x.key,QY QU x.v.kind,XY x.v.truth,QY QU x.v.num,QZ x.v.text,QZ x.v.extra,QQ I L j] rfl rfl (World.news_of_block (cs:=#[QZ x.key,QY QU x.v.kind,XY x.v.truth,QY QU x.v.num,QZ x.v.text,QZ x.v.extra,QQ I L j]) (by exact NB.o)) ac.o (by omega) (by unfold maxLen;omega) (by omega) (Nat.zero_le _) (w6.heap.size+1) (by exact ap.o) (λg7 c7 w7 D f a9 _=>?_);have am:=q_ D;have V:=q_ (show w6.grownBy w7 (Value.slice A3 k c3).ownBlock from ak_ (w:=w6) (o:=XX #[QZ x.key,QY QU x.v.kind,XY x.v.truth,QY QU x.v.num,QZ x.v.text,QZ x.v.extra,QQ I L j] 69) ⟨f.os,f.tape,f.output,f.size,f.block⟩);have a5:=q_ (show (Value.slice A3 k c3).ownBlock=some g7\/g7=w6.heap.size+1 from a9);clear D f a9) | (go_simp;go_at_call 44;(with_reducible refine a8.o.mono ?_);rintro e w6 ⟨I,j,rfl,O,a3⟩;rw[C.o]at a3;unfold c_;rw[C.o];have U:=q_ O;have aq:=q_ a3;have a4:=q_ ((Turn.of_below O).owns ae.o (λg Z h=>by have:=M.o.2.1 g Z;have h2:w5.heap.size<=g:=h;have:=r.o.size;omega));have b1:w6.cell? (ad.add (k*7))=some (QZ x.key):=(O.cell (p:=ad.add (k*7)) (by rw[block_of_add];exact aj.o)).trans (by rw[<-d.o];exact ak.o);have ac:=q_ (show ∀u∈([QZ x.key,QY QU x.v.kind,XY x.v.truth,QY QU x.v.num,QZ x.v.text,QZ x.v.extra,QQ I L j]:List XJ),u.oneCell'=true from λu J=>by simp at J;rcases J with rfl | rfl | rfl | rfl | rfl | rfl | rfl<;>rfl);have NB:=q_ (XU w6 (XX #[QZ x.key,QY QU x.v.kind,XY x.v.truth,QY QU x.v.num,QZ x.v.text,QZ x.v.extra,QQ I L j] 69));have ap:=q_ (show (w6.alloc (XX #[QZ x.key,QY QU x.v.kind,XY x.v.truth,QY QU x.v.num,QZ x.v.text,QZ x.v.extra,QQ I L j] 69)).heap.size=w6.heap.size+1 by simp);clear O a3))
   all_goals (
    have w1:IntKind.i64.wrap ((k:Int)+1)=(k:Int)+1:=YU _ (by omega);go_wp2_with fail;go_roundw)
   all_goals first
    | (case measure=>simp[intOf];omega)
    | (case rel=>
        obtain⟨S,m,hr⟩:=M.o;have b4:w5.heap.size<=w6.heap.size:=U.o.size;have b5:w6.heap.size<=w7.heap.size:=V.o.size;have b0:=ao.o;have hz:=Hz.o;have D:=am.o;have f:g7<w7.heap.size:=(D.lt g7 rfl).2
        have aa:=g7_ (w5:=w6) (w6:=w7) (R:=PaR) (E:=69) (sz:=7) (F:=λb=>w.heap.size<=b/\b<wr.heap.size) (G:=λb=>w5.heap.size<=b/\b<w6.heap.size) (l:=l.take k) (x:=x) (s:=QQ A3 k c3) (c:=c1_ x (QQ I x.v.list.length j)) (g4:=g7) (c4:=c7) (cs:=cs) PaR.good
         (λi hi=>S i (by rw[N.o]at hi;exact hi)) (λi y hy=>PaR.good.keep (hr i y hy) (λp hp=>U.o.cell (show p.block<w5.heap.size from by have:=hp.1.2;omega)))
         ⟨_,rfl,by rw[C.o];exact aq.o⟩ rfl (λb hb e=>by have:=(m b e).2;have:=hb.1;omega) (λb hb=>by have:=hb.2;omega) (λb hb=>hb.2) (by rw[N.o];unfold c1_;rw[C.o];exact D) V.o (by rcases a5.o with e | e;exact .inl e;exact .inr (by omega))
        rw[N.o]at aa;refine⟨k+1,by omega,by go_num,q_ ?_,q_ ?_⟩
        ·exact ((X.o.trans (r.o.mono (by omega))).trans ((b2_ U.o).mono (show w.heap.size<=w5.heap.size from by omega))).trans ((Turn.of_grown V.o).below (λb _ hb=>(m b hb.symm).1) (by omega))
        ·rw[f_ HX.o];refine aa.mono PaR.good λb hb=>?_;rcases hb with hb | hb | hb
         ·exact⟨hb.1,by have:=hb.2;omega⟩
         ·exact⟨by have:=hb.1;omega,by have:=hb.2;omega⟩
         ·subst hb;refine⟨?_,f⟩;rcases a5.o with h | h
          ·exact (m b h).1
          ·omega)
  ·have aw:k=n:=by omega
   subst aw;have az:=q_ (show l.take k=l from YJ (by rw[a0.o];exact XK _));obtain⟨A3,c3,W⟩:=T.o.form;rw[az.o]at T W;subst W;obtain⟨cs,q,S,m,b3⟩:=T.o;go_wp2_with fail;go_ret;exact⟨_,rfl,X.o,T.o⟩
structure zi_ {α : Type} (le:α -> α -> Prop) (l:List α) (i:Nat) (c:List α):Prop where
 perm:c.Perm l
 rest:∀j,i<=j->c[j]?=l[j]?
 srt:∀p q x y,p<q->q<i->c[p]?=QJ x->c[q]?=QJ y->le x y
structure Od_ {α : Type} (le:α -> α -> Prop) (l:List α) (i k:Nat) (c:List α):Prop where
 perm:c.Perm l
 rest:∀j,i<j->c[j]?=l[j]?
 srt:∀p q x y,p<q->q<=i->p≠k->q≠k->c[p]?=QJ x->c[q]?=QJ y->le x y
 beh:∀q x y,k<q->q<=i->c[k]?=QJ x->c[q]?=QJ y->le x y
section
variable {α : Type} {le:α -> α -> Prop} {l c:List α} {i k:Nat}
theorem zi_.zero:zi_ le l 0 l:=⟨List.Perm.refl _,λ_ _=>rfl,λ_ _ _ _ _ h=>absurd h (Nat.not_lt_zero _)⟩
theorem zi_.one:zi_ le l 1 l:=⟨List.Perm.refl _,λ_ _=>rfl,λ_ _ _ _ h h2=>by omega⟩
theorem Od_.low (h:Od_ le l i 0 c):zi_ le l (i+1) c:=by
 refine⟨h.perm,λj m=>h.rest j (by omega),λp q x y h1 h2 f g=>?_⟩;by_cases d:p=0
 ·subst d;exact h.beh q x y h1 (by omega) f g
 ·exact h.srt p q x y h1 (by omega) d (by omega) f g
theorem zi_.done {n:Nat} (h:zi_ le l n c) (j:l.length<=n):c.Perm l/\c.Pairwise le:=by refine⟨h.perm,List.pairwise_iff_getElem.2 λp q g f d=>?_⟩;exact h.srt p q _ _ d (by rw[h.perm.length_eq]at f;omega) (XQ g) (XQ f)
end
structure bu_.GoodT {α : Type} (R:bu_ α):Prop where
 turn:∀{S:Nat->Prop} {w w':QV} {F:Nat->Prop} {x:α} {c:Array XJ},R w F x c->Turn S w w'->(∀b,F b->b<w.heap.size)->(∀b,F b->¬S b)->R w' F x c
 mono:∀{w:QV} {F F':Nat->Prop} {x:α} {c:Array XJ},R w F x c->(∀g,F g->F' g)->R w F' x c
theorem bu_.Good.t {α : Type} {R:bu_ α} (h:R.Good):R.GoodT:=⟨λj ht g f=>h.keep j λ_ d=>ht.cell (g _ d) (f _ d),h.mono⟩
structure mp_ {α : Type} (E sz:Nat) (R:bu_ α) (w:QV) (lo hi:Nat) (l:List α) (A:Option Addr) (n cp:Nat) (cs:Nat->Array XJ) (a:Nat->Nat):Prop where
 row:w.ownsRow 0 E sz (QQ A n cp) n (R_ cs n)
 len:l.length=n
 sz:∀i,i<n->(cs i).size=sz
 own:∀g,(Value.slice A n cp).ownBlock=QJ g->lo<=g/\g<hi
 up:∀i j,i<=j->a i<=a j
 lo_:lo<=a 0
 hi_:a n<=hi
 top:hi<=w.heap.size
 el:∀i x,l[i]?=QJ x->R w (λb=>a i<=b/\b<a (i+1)/\(Value.slice A n cp).ownBlock≠QJ b) x (cs i)
def go_ {α : Type} (E sz:Nat) (R:bu_ α) (w:QV) (lo hi:Nat) (l:List α) (s:XJ):Prop:=∃A cp cs a,s = QQ A l.length cp/\mp_ E sz R w lo hi l A l.length cp cs a
section
variable {α : Type} {R:bu_ α} {E sz lo hi n cp:Nat} {w w':QV} {l:List α} {A:Option Addr} {cs:Nat->Array XJ} {a:Nat->Nat} {s:XJ}
theorem mp_.turn {S:Nat->Prop} (o:R.GoodT) (h:mp_ E sz R w lo hi l A n cp cs a) (ht:Turn S w w') (f:∀b,lo<=b->b<hi->¬S b):mp_ E sz R w' lo hi l A n cp cs a:=by
 refine⟨ht.owns h.row (λg j=>f g (h.own g j).1 (h.own g j).2),h.len,h.sz,h.own,h.up,h.lo_,h.hi_,ZX h.top ht.size,λi x d=>o.turn (h.el i x d) ht (λb hb=>?_) (λb hb=>?_)⟩
 ·have m:=c3_ d;have:=h.up (i+1) n (by have:=h.len;omega);have:=h.hi_;have:=h.top;omega
 ·have m:=c3_ d;have:=h.up (i+1) n (by have:=h.len;omega);have:=h.up 0 i (by omega);have:=h.hi_;have:=h.lo_;exact f b (by omega) (by omega)
theorem mp_.wide {d:Nat} (h:mp_ E sz R w lo hi l A n cp cs a) (j:hi<=d) (ht:d<=w.heap.size):mp_ E sz R w lo d l A n cp cs a:=
 ⟨h.row,h.len,h.sz,λg f=>⟨(h.own g f).1,XZ (h.own g f).2 j⟩,h.up,h.lo_,ZX h.hi_ j,ht,h.el⟩
theorem go_.turn {S:Nat->Prop} (d:R.GoodT) (h:go_ E sz R w lo hi l s) (ht:Turn S w w') (f:∀b,lo<=b->b<hi->¬S b):go_ E sz R w' lo hi l s:=by obtain⟨A,cp,cs,a,e,h⟩:=h;exact⟨A,cp,cs,a,e,h.turn d ht f⟩
theorem go_.wide {d:Nat} (h:go_ E sz R w lo hi l s) (f:hi<=d) (ht:d<=w.heap.size):go_ E sz R w lo d l s:=by obtain⟨A,cp,cs,a,e,h⟩:=h;exact⟨A,cp,cs,a,e,h.wide f ht⟩
theorem go_.low {d:Nat} (h:go_ E sz R w lo hi l s) (j:d<=lo):go_ E sz R w d hi l s:=by obtain⟨A,cp,cs,a,e,h⟩:=h;exact⟨A,cp,cs,a,e,h.row,h.len,h.sz,λg f=>⟨ZX j (h.own g f).1,(h.own g f).2⟩,h.up,ZX j h.lo_,h.hi_,h.top,h.el⟩
theorem go_.nil (d:lo<=hi) (ht:hi<=w.heap.size):go_ E sz R w lo hi [] (QQ QK 0 0):=
 ⟨none,0,λ_=>#[],λ_=>lo,rfl,World.ownsRow_nil ..,rfl,(λ_ h=>absurd h (Nat.not_lt_zero _)),(λg f=>by cases f),λ_ _ _=>XK _,XK _,d,ht,λi x j=>by simp at j⟩
theorem go_.sown (f:R.GoodT) (h:go_ E sz R w lo hi l s):x_ E sz R w (λb=>lo<=b/\b<hi) l s:=by obtain⟨A,cp,cs,a,rfl,h⟩:=h;refine⟨cs,h.row,h.sz,h.own,λi x d=>f.mono (h.el i x d) λb hb=>?_⟩;have g:=c3_ d;have:=h.up (i+1) l.length (by omega);have:=h.up 0 i (by omega);have:=h.hi_;have:=h.lo_;exact⟨⟨by omega,by omega⟩,hb.2.2⟩
theorem mp_.put {q j k:Nat} {w5 w6 w7:QV} {x:α} {c:Array XJ} {g7 c7:Nat} {v:XJ} (o:R.GoodT) (hq:q<lo) (h:mp_ E sz R w5 lo w5.heap.size l A k cp cs a)
    (C:XW w5.heap.size w5 w6) (O:R w6 (λb=>w5.heap.size<=b/\b<w6.heap.size) x c) (W:c.size=sz) (r:w6.grownBy w7 (Value.slice A k cp).ownBlock) (L:(Value.slice A k cp).ownBlock=QJ g7\/w6.heap.size<=g7)
    (S:w7.ownsRow 0 E sz (QQ (QJ ⟨g7,0,QK⟩) (k+1) c7) (k+1) (R_ cs k++c.toList)) :
    go_ E sz R (w7.setCell ⟨q,j,QK⟩ v) lo (w7.setCell ⟨q,j,QK⟩ v).heap.size (l++[x]) (QQ (QJ ⟨g7,0,QK⟩) (k+1) c7)/\Turn (λb=>QJ b=(Value.slice A k cp).ownBlock\/b=q) w6 (w7.setCell ⟨q,j,QK⟩ v):=by
 have a3:w5.heap.size<=w6.heap.size:=C.size;have a4:w6.heap.size<=w7.heap.size:=r.size;have Y:g7<w7.heap.size:=(S.lt g7 rfl).2;have f:=h.len
 have Z:lo<=g7:=by
  rcases L with e | e
  ·exact (h.own g7 e).1
  ·have:=h.lo_;have:=h.up 0 k (by omega);have:=h.hi_;omega
 have J:Turn (λb=>QJ b=(Value.slice A k cp).ownBlock\/b=q) w6 (w7.setCell ⟨q,j,QK⟩ v):=
  ((Turn.of_grown r).mono (λb _ hb=>.inl hb)).trans (((Turn.refl (λb=>b=q) w7).setCell (p:=⟨q,j,QK⟩) (.inr rfl) v).mono (λb _ hb=>.inr hb))
 have T:(w7.setCell ⟨q,j,QK⟩ v).heap.size=w7.heap.size:=by simp
 refine⟨⟨QJ ⟨g7,0,QK⟩,c7,λi=>if i=k then c else cs i,λi=>if i<=k then a i else w7.heap.size,by simp[f],?_⟩,J⟩
 have u:(l++[x]).length=k+1:=by simp[f]
 rw[u];refine⟨?_,u,λi hi=>?_,λg D=>?_,λi j N=>?_,?_,?_,XK _,λi y B=>?_⟩
 ·rw[dt_,gf_ (ds:=cs) (λi hi=>iN_ (by omega)),iP_ rfl]
  exact ((Turn.refl (λb=>b=q) w7).setCell (p:=⟨q,j,QK⟩) (.inr rfl) v).owns S (λg r e=>by have r:g7=g:=by injection r
                                                                                         omega)
 ·show (if i=k then c else cs i).size=sz
  by_cases e:i=k
  ·rw[iP_ e];exact W
  ·rw[iN_ e];exact h.sz i (by omega)
 ·have D:g7=g:=by injection D
  omega
 ·show (if i<=k then a i else w7.heap.size)<=(if j<=k then a j else w7.heap.size)
  by_cases d:j<=k
  ·rw[iP_ d,iP_ (by omega)];exact h.up i j N
  ·rw[iN_ d];by_cases I:i<=k
   ·rw[iP_ I];have:=h.up i k I;have:=h.hi_;omega
   ·rw[iN_ I];exact XK _
 ·show lo<=if 0<=k then a 0 else w7.heap.size
  rw[iP_ (Nat.zero_le _)];exact h.lo_
 ·show (if k+1<=k then a (k+1) else w7.heap.size)<=_
  rw[iN_ (by omega),T];exact XK _
 ·have M:=c3_ B;rw[u]at M;by_cases e:i=k
  ·subst e;have U:y=x:=by rw[List.getElem?_append_right (by omega),f,Nat.sub_self]at B;simpa using B.symm
   subst U;show R _ (λb=>(if i<=i then a i else w7.heap.size)<=b/\b<(if i+1<=i then a (i+1) else w7.heap.size)/\_) y (if i=i then c else cs i)
   rw[iP_ rfl,iP_ (XK _),iN_ (by omega)];refine o.mono (o.turn O J (λb hb=>hb.2) (λb hb d=>?_)) λb hb=>⟨?_,by omega,λd=>?_⟩
   ·rcases d with d | d
    ·have:=(h.own b d.symm).2;omega
    ·have:=h.lo_;have:=h.up 0 i (by omega);have:=h.hi_;omega
   ·have:=h.hi_;omega
   ·have d:g7=b:=by injection d
    rcases L with m | m
    ·have:=(h.own g7 m).2;omega
    ·omega
  ·have a1:i<k:=by omega
   rw[List.getElem?_append_left (by omega)]at B;show R _ (λb=>(if i<=k then a i else w7.heap.size)<=b/\b<(if i+1<=k then a (i+1) else w7.heap.size)/\_) y (if i=k then c else cs i)
   rw[iN_ e,iP_ (show i<=k by omega),iP_ (show i+1<=k by omega)];have h1:=h.el i y B;have a5:=h.up (i+1) k (by omega);have a2:=h.up 0 i (by omega);have a0:=h.hi_;have X:=h.lo_;have V:=o.turn h1 (Turn.of_below C) (λb hb=>by omega) (λb hb d=>by omega);refine o.mono (o.turn V J (λb hb=>by omega) (λb hb d=>?_)) λb hb=>⟨hb.1,hb.2.1,λd=>?_⟩
   ·rcases d with d | d
    ·exact hb.2.2 d.symm
    ·omega
   ·have d:g7=b:=by injection d
    rcases L with m | m
    ·exact hb.2.2 (by rw[m,d])
    ·omega
end
def NoO:bu_ i_:=λw F n c=>∃L P m,c=#[QY QU n.id,L,P]/\x_ 9 1 TxR w (λb=>F b/\b<m) n.labels L/\x_ 69 7 PaR w (λb=>F b/\m<=b) n.props P
theorem NoO.good:NoO.GoodT:=
 ⟨fun⟨L,P,m,e,h1,h2⟩ ht hl hS=>⟨L,P,m,e,h1.turn TxR.good ht (λb hb=>hl b hb.1) (λb hb=>hS b hb.1),h2.turn PaR.good ht (λb hb=>hl b hb.1) (λb hb=>hS b hb.1)⟩,
  fun⟨L,P,m,e,h1,h2⟩ hF=>⟨L,P,m,e,h1.mono TxR.good (λb hb=>⟨hF b hb.1,hb.2⟩),h2.mono PaR.good (λb hb=>⟨hF b hb.1,hb.2⟩)⟩⟩
def EdO:bu_ l_:=λw F e c=>∃P,c=#[QY QU e.id,QY QU e.src,QY QU e.dst,QZ e.type,P]/\x_ 69 7 PaR w F e.props P
theorem EdO.good:EdO.GoodT:=
 ⟨fun⟨P,e,h⟩ ht hl hS=>⟨P,e,h.turn PaR.good ht hl hS⟩,fun⟨P,e,h⟩ hF=>⟨P,e,h.mono PaR.good hF⟩⟩
theorem NoO.rd {w:QV} {F:Nat->Prop} {n:i_} {c:Array XJ} (h:NoO w F n c):NoR w F n c:=by obtain⟨L,P,m,e,h1,h2⟩:=h;exact⟨L,P,e,(h1.rd TxR.good).mono TxR.good (λb hb=>hb.1),(h2.rd PaR.good).mono PaR.good (λb hb=>hb.1)⟩
theorem EdO.rd {w:QV} {F:Nat->Prop} {n:l_} {c:Array XJ} (h:EdO w F n c):EdR w F n c:=by obtain⟨P,e,h1⟩:=h;exact⟨P,e,h1.rd PaR.good⟩
structure Cg1 (w:QV) (z:Nat) (ns:List i_) (Ns:XJ) (wr:QV):Prop where
 below:XW z w wr
 res:wr.heap[z]?=QJ (XX #[QQ QK 0 0,QQ QK 0 0] 54 (0,0))
 box:wr.heap[z+1]?=QJ (XX #[Ns,QQ QK 0 0] 54 (0,0))
 own:go_ 72 3 NoO wr (z+2) wr.heap.size ns Ns
structure Cg2 (w:QV) (z z2:Nat) (ns:List i_) (es:List l_) (Ns Es:XJ) (wr:QV):Prop where
 below:XW z w wr
 res:wr.heap[z]?=QJ (XX #[QQ QK 0 0,QQ QK 0 0] 54 (0,0))
 box:wr.heap[z+1]?=QJ (XX #[Ns,Es] 54 (0,0))
 nodes:go_ 72 3 NoO wr (z+2) z2 ns Ns
 own:go_ 74 5 EdO wr z2 wr.heap.size es Es
 loc:z+2<=z2/\z2<=wr.heap.size
section
variable {w:QV} {z z2 k:Nat} {ns:List i_} {es:List l_} {Ns Es:XJ} {wr w2 w5 w6 w7:QV} {A3:Option Addr} {c3:Nat} {cs:Nat->Array XJ} {a:Nat->Nat} {c:Array XJ} {g7 c7:Nat}
theorem Cg1.on (h:Cg1 w z ns Ns wr) (hb:XW wr.heap.size wr w2):Cg1 w z ns Ns w2:=by have hz:=b_ h.box;exact⟨h.below.trans (hb.mono (by omega)),(hb.block _ (by omega)).trans h.res,(hb.block _ hz).trans h.box,(h.own.turn NoO.good (Turn.of_below hb) (λb _ hb h=>by omega)).wide hb.size (XK _)⟩
theorem Cg2.on (h:Cg2 w z z2 ns es Ns Es wr) (hb:XW wr.heap.size wr w2):Cg2 w z z2 ns es Ns Es w2:=by
 have hz:=b_ h.box;have d:=h.loc
 exact⟨h.below.trans (hb.mono (by omega)),(hb.block _ (by omega)).trans h.res,(hb.block _ hz).trans h.box,h.nodes.turn NoO.good (Turn.of_below hb) (λb _ hb h=>by omega),
  (h.own.turn EdO.good (Turn.of_below hb) (λb _ hb h=>by omega)).wide hb.size (XK _),d.1,ZX d.2 hb.size⟩
theorem Cg1.next (h:Cg1 w z ns Ns wr):Cg2 w z wr.heap.size ns [] Ns (QQ QK 0 0) wr:=by have hz:=b_ h.box;exact⟨h.below,h.res,h.box,h.own,go_.nil (XK _) (XK _),by omega,XK _⟩
theorem Cg1.more {n':i_} (h:Cg1 w z ns (QQ A3 k c3) w5) (o:mp_ 72 3 NoO w5 (z+2) w5.heap.size ns A3 k c3 cs a)
    (d:XW w5.heap.size w5 w6) (u:NoO w6 (λb=>w5.heap.size<=b/\b<w6.heap.size) n' c) (y:c.size=3) (p:w6.grownBy w7 (Value.slice A3 k c3).ownBlock) (C:(Value.slice A3 k c3).ownBlock=QJ g7\/w6.heap.size<=g7)
    (D:w7.ownsRow 0 72 3 (QQ (QJ ⟨g7,0,QK⟩) (k+1) c7) (k+1) (R_ cs k++c.toList)) :
    Cg1 w z (ns++[n']) (QQ (QJ ⟨g7,0,QK⟩) (k+1) c7) (w7.setCell ⟨z+1,0,QK⟩ (QQ (QJ ⟨g7,0,QK⟩) (k+1) c7)):=by
 have hz:=b_ h.box;have m:=h.on d;have I:w5.heap.size<=w6.heap.size:=d.size;have J:w6.heap.size<=w7.heap.size:=p.size;obtain⟨x,r⟩:=mp_.put (q:=z+1) (j:=0) (v:=QQ (QJ ⟨g7,0,QK⟩) (k+1) c7) NoO.good (by omega) o d u y p C D;have g:∀b,b<z+2->QJ b≠(Value.slice A3 k c3).ownBlock:=λb hb e=>by have:=(o.own b e.symm).1;omega
 refine⟨m.below.trans (r.below (B:=z) (λi _ hi=>?_) (by omega)),(r.block _ (by omega) (λf=>?_)).trans m.res,?_,x⟩
 ·rcases hi with hi | hi
  ·have:=(o.own i hi.symm).1;omega
  ·omega
 ·rcases f with f | f
  ·exact g _ (by omega) f
  ·omega
 ·exact heap_setCell_same w7 (z+1) 0 _ _ _ ((p.block (z+1) (by omega) (g _ (by omega))).trans m.box)
theorem Cg2.more {n':l_} (h:Cg2 w z z2 ns es Ns (QQ A3 k c3) w5) (o:mp_ 74 5 EdO w5 z2 w5.heap.size es A3 k c3 cs a)
    (f:XW w5.heap.size w5 w6) (x:EdO w6 (λb=>w5.heap.size<=b/\b<w6.heap.size) n' c) (C:c.size=5) (r:w6.grownBy w7 (Value.slice A3 k c3).ownBlock) (D:(Value.slice A3 k c3).ownBlock=QJ g7\/w6.heap.size<=g7)
    (I:w7.ownsRow 0 74 5 (QQ (QJ ⟨g7,0,QK⟩) (k+1) c7) (k+1) (R_ cs k++c.toList)) :
    Cg2 w z z2 ns (es++[n']) Ns (QQ (QJ ⟨g7,0,QK⟩) (k+1) c7) (w7.setCell ⟨z+1,1,QK⟩ (QQ (QJ ⟨g7,0,QK⟩) (k+1) c7)):=by
 have hz:=b_ h.box;have u:=h.loc;have m:=h.on f;have L:w5.heap.size<=w6.heap.size:=f.size;have M:w6.heap.size<=w7.heap.size:=r.size;obtain⟨y,p⟩:=mp_.put (q:=z+1) (j:=1) (v:=QQ (QJ ⟨g7,0,QK⟩) (k+1) c7) EdO.good (by omega) o f x C r D I;have g:∀b,b<z2->QJ b≠(Value.slice A3 k c3).ownBlock:=λb hb e=>by have:=(o.own b e.symm).1;omega
 refine⟨m.below.trans (p.below (B:=z) (λi _ hi=>?_) (by omega)),(p.block _ (by omega) (λd=>?_)).trans m.res,?_,m.nodes.turn NoO.good p (λb J hb d=>?_),y,u.1,by simp only[World.size_setCell];omega⟩
 ·rcases hi with hi | hi
  ·have:=(o.own i hi.symm).1;omega
  ·omega
 ·rcases d with d | d
  ·exact g _ (by omega) d
  ·omega
 ·exact heap_setCell_same w7 (z+1) 1 _ _ _ ((r.block (z+1) (by omega) (g _ (by omega))).trans m.box)
 ·rcases d with d | d
  ·exact g _ (by omega) d
  ·omega
end
def Ka_ (G:D_) (w:QV) (e:Ending) (w':QV):Prop:=
 ∃(N E:XJ) (z2:Nat),e = YQ (.agg #[N,E])/\XW w.heap.size w w'/\w.heap.size<=z2/\z2<=w'.heap.size/\go_ 72 3 NoO w' w.heap.size z2 G.nodes N/\go_ 74 5 EdO w' z2 w'.heap.size G.edges E
theorem C8_ (G:D_) (ab:j3_ G) (F:Nat->Prop) (u:XJ) (w:QV) (hF:∀b,F b->b<w.heap.size) (hg:GrR w F G u) :
    Calls QW 30 #[u] w (Ka_ G w):=by
 have b4:=q_ ab;obtain⟨uN,uE,rfl,⟨AN,cN,c2,_,bl⟩,AE,cE,c0,_,bj⟩:=hg;obtain⟨nN,ao⟩:=a_ G.nodes.length;obtain⟨nE,am⟩:=a_ G.edges.length;have d8:nN<=2000000:=by rw[<-ao.o];exact ab.1
 have d7:nE<=2000000:=by rw[<-am.o];exact ab.2.1
 rw[ao.o]at c2 bl;rw[am.o]at c0 bj;subst c2 c0;obtain⟨O,D⟩:=a_ w.heap.size;obtain⟨w0,b0⟩:=a_ (w.alloc (XX #[QQ AN nN cN,QQ AE nE cE] 54));have av:=q_ (show XW w.heap.size w w0 from by rw[<-b0.o];exact (XV _ _).alloc (XK _) _);have bt:=q_ (show w0.heap[O]?=QJ (XX #[QQ AN nN cN,QQ AE nE cE] 54 (0,0)) from by rw[<-b0.o,<-D.o];exact XU w _);obtain⟨z,HZ⟩:=a_ w0.heap.size;have bw:=q_ (show z=O+1 from by rw[<-HZ.o,<-b0.o,<-D.o];simp);have de:O<z:=by have:=bw.o;omega
 have ch:=q_ ((bl.mono NoR.good (F':=λb=>b<O) (λb hb=>by have:=hF b hb;rw[D.o]at this;exact this)).under NoR.good av.o (λb hb=>by rw[D.o];exact hb));have cc:=q_ ((bj.mono EdR.good (F':=λb=>b<O) (λb hb=>by have:=hF b hb;rw[D.o]at this;exact this)).under EdR.good av.o (λb hb=>by rw[D.o];exact hb));clear ab bl bj hF;obtain⟨w1,aj⟩:=a_ ((w0.alloc (XX #[QQ QK 0 0,QQ QK 0 0] 54)).alloc (XX #[QQ QK 0 0,QQ QK 0 0] 54));have cb:=q_ (show XW w0.heap.size w0 w1 from by rw[<-aj.o];exact F_ w0 _ _)
 have cd:=q_ (show Cg1 w0 z [] (QQ QK 0 0) w1 from by
  have dd:w1.heap.size=z+2:=by rw[<-aj.o,<-HZ.o];simp
  refine⟨by rw[<-HZ.o];exact cb.o,?_,?_,go_.nil (by omega) (XK _)⟩
  ·rw[<-aj.o,Below.heap_alloc _ _ _ (by rw[<-HZ.o];simp),<-HZ.o];exact XU w0 _
  ·have:=XU (w0.alloc (XX #[QQ QK 0 0,QQ QK 0 0] 54)) (XX #[QQ QK 0 0,QQ QK 0 0] 54);rw[aj.o]at this;simpa [HZ.o] using this)
 go_enter func30,ntmps30
 go_upto_region 2 with fail;rw[b0.o,D.o,show O+1=z from bw.o.symm,aj.o];go_wp2_with fail;go_loopw [4] (λs wx=>∃(k:Nat) (Xs:XJ),k<=nN/\s = QY QU (k:Nat)/\Q_ (Cg1 w0 z (G.nodes.take k) Xs wx)) (λs _=>nN-(intOf s).toNat)
 case atStart=>exact⟨0,_,by omega,rfl,q_ (by rw[List.take_zero];exact cd.o)⟩
 case round=>
  obtain⟨k,Xs,hk,rfl,B⟩:=hrel;have x0:wr.cell? ⟨O,0,none⟩=some (QQ AN nN cN):=(B.o.below.cell (p:=⟨O,0,none⟩) (by show O<z;omega)).trans (QX bt.o 0);by_cases bn:k<nN
  ·obtain⟨x,hx⟩:∃x,G.nodes[k]?=QJ x:=⟨G.nodes[k]'(by rw[ao.o];exact bn),XQ _⟩;have HX:=q_ hx;have a9:=q_ (b4.o.2.2.1 x (YZ hx));obtain⟨ad,A1,d1,T,U,rfl,bk,cr,bm,a4,q0,q1,q2⟩:=jk_ (ch.o.under NoR.good B.o.below (λb hb=>by omega)) hx;clear hx bk cr;obtain⟨id,a2⟩:=a_ x.id;obtain⟨J,bg⟩:=a_ x.labels.length;obtain⟨m,ak⟩:=a_ x.props.length;rw[a2.o]at q0;rw[bg.o]at q1 bm;rw[ak.o]at q2 a4;have ce:=q_ bm;have b6:=q_ a4;have d9:J<=2000000:=by rw[<-bg.o];exact a9.o.1.1
   obtain⟨d,a3⟩:=a_ wr.heap.size;obtain⟨w5,a1⟩:=a_ (wr.alloc (XX #[QY QU id,QQ A1 J d1,QQ T m U] 72));have C:=q_ (show XW wr.heap.size wr w5 from by rw[<-a1.o];exact (XV _ _).alloc (XK _) _);have X:=q_ (show w5.heap[d]?=QJ (XX #[QY QU id,QQ A1 J d1,QQ T m U] 72 (0,0)) from by rw[<-a1.o,<-a3.o];exact XU wr _);have a5:(G.nodes.take k).length=k:=by rw[UJ,ao.o];omega
   obtain⟨A3,c3,cs,a,h3,hI⟩:=B.o.own;rw[a5]at h3 hI;subst h3;have HI:=q_ hI;have a7:=q_ (show ∀b,(Value.slice A3 k c3).ownBlock=QJ b->z+2<=b/\b<wr.heap.size from hI.own);have ae:=q_ (show z+1<wr.heap.size from b_ B.o.box);have N:=q_ (show d<w5.heap.size from b_ X.o);have ac:=q_ (show d=wr.heap.size from a3.o.symm);have bq:wr.heap.size<=w5.heap.size:=C.o.size;have y:=q_ (show z+1<w5.heap.size from by have:=ae.o;omega);have a8:=q_ B.o;have cf:=q_ (a8.o.on C.o);have cv:=q_ (C9_ x.labels (λb=>b<O) A1 J d1 (by omega) w5.drew (λb hb=>by show b<w5.heap.size;have:=y.o;omega) ((ce.o.under TxR.good C.o (λb hb=>by have:=ae.o;omega)).drewN TxR.good 1));have bo:=q_ (λ(W:QV) (hW:XW w5.heap.size w5 W)=>sl_ x.props a9.o.1.2.2.2 a9.o.1.2.1 (λb=>b<O) T m U W (λb hb=>by have h1:w5.heap.size<=W.heap.size:=hW.size;have:=y.o;omega) ((b6.o.under PaR.good C.o (λb hb=>by have:=ae.o;omega)).under PaR.good hW (λb hb=>by have:=y.o;omega)));have az:=q_ (λ(Z:QV) (hW:XW w5.heap.size w5 Z)=>(show (Z.cell? ⟨d,0,QK⟩=QJ (QY QU id)/\Z.cell? ⟨d,1,QK⟩=QJ (QQ A1 J d1)/\Z.cell? ⟨d,2,QK⟩=QJ (QQ T m U)) from ⟨(hW.cell (p:=⟨d,0,QK⟩) N.o).trans (QX X.o 0),(hW.cell (p:=⟨d,1,QK⟩) N.o).trans (QX X.o 1),(hW.cell (p:=⟨d,2,QK⟩) N.o).trans (QX X.o 2)⟩));have ah:=q_ (λ(Z:QV) (hW:XW w5.heap.size w5 Z)=>(show Z.heap[z+1]?=QJ (XX #[QQ A3 k c3,QQ QK 0 0] 54 (0,0)) from (hW.block (z+1) y.o).trans cf.o.box));have s1:=q_ (az.o w5.drew (XV _ _).drew);have g0:w5.drew.cell? ⟨z+1,0,QK⟩=QJ (QQ A3 k c3):=QX (ah.o w5.drew (XV _ _).drew) 0;clear a5 hI B bm a4;obtain⟨i0,cu,c8,c9,ca⟩:=info_parts qj_;have e1:(0:Int)<=k:=by omega
   have e2:(k:Int)<nN:=by omega
   go_upto_region 6 with fail;rw[a3.o,a1.o];clear q0 q1 q2 x0;refine me_ 14 (λZ=>(Z.cell? ⟨d,0,QK⟩=QJ (QY QU id)/\Z.cell? ⟨d,1,QK⟩=QJ (QQ A1 J d1)/\Z.cell? ⟨d,2,QK⟩=QJ (QQ T m U))/\Z.cell? ⟨z+1,0,QK⟩=QJ (QQ A3 k c3)) ⟨s1.o,QX (ah.o w5 (XV _ _)) 0⟩ λq=>?_;refine ca_ 0 20 ?_ q (λw f=>?_) λq=>?_;rotate_left
   ·unfold z_;try dsimp only at f
    go_simp
    first | done | with_reducible rfl
   refine ca_ 1 21 ?_ q (λw f=>?_) λq=>?_;rotate_left
   ·unfold z_;try dsimp only at f
    go_simp
    first | done | with_reducible rfl
   refine ca_ 2 22 ?_ q (λw f=>?_) λq=>?_;rotate_left
   ·unfold z_;try dsimp only at f
    go_simp
    first | done | with_reducible rfl
   refine ca_ 3 23 ?_ q (λw f=>?_) λq=>?_;rotate_left
   ·unfold z_;try dsimp only at f
    go_simp
    first | done | with_reducible rfl
   refine ca_ 4 24 ?_ q (λw f=>?_) λq=>?_;rotate_left
   ·unfold z_;try dsimp only at f
    go_simp
    first | done | with_reducible rfl
   refine ca_ 5 25 ?_ q (λw f=>?_) λq=>?_;rotate_left
   ·unfold z_;try dsimp only at f
    go_simp
    first | done | with_reducible rfl
   refine ca_ 7 27 ?_ q (λw f=>?_) λq=>?_;rotate_left
   ·unfold z_;try dsimp only at f
    go_simp
    first | done | with_reducible rfl
   refine ca_ 8 28 ?_ q (λw f=>?_) λq=>?_;rotate_left
   ·unfold z_;try dsimp only at f
    go_simp
    first | done | with_reducible rfl
   refine d7_ 6 λK hK=>?_;go_simp;go_at_call 80
   (with_reducible refine cv.o.mono ?_)
   rintro e wA ⟨df,rfl,c4,b2⟩;obtain⟨A6,c6,rfl⟩:=b2.form;rw[bg.o]at b2 ⊢;have a6:=q_ (show XW w5.heap.size w5 wA from b2_ c4);have ci:=q_ b2;have sA:=q_ (az.o wA a6.o);have gA:wA.cell? ⟨z+1,0,QK⟩=QJ (QQ A3 k c3):=QX (ah.o wA a6.o) 0;clear c4 b2;refine d6_ hK ⟨sA.o,gA⟩ λq=>?_;refine d7_ 9 λK hK=>?_;go_simp;go_at_call 81
   (with_reducible refine (bo.o wA a6.o).mono ?_)
   rintro e w6 ⟨dg,rfl,Y,S⟩;obtain⟨M,r,rfl⟩:=S.form;rw[ak.o]at S ⊢;have ay:=q_ Y;have b9:=q_ S;have V:=q_ (show XW w5.heap.size w5 w6 from a6.o.trans (Y.mono a6.o.size));have ba:=q_ (show z+1<w6.heap.size from by have h1:w5.heap.size<=w6.heap.size:=V.o.size;have:=y.o;omega);have b3:=q_ (show XW wr.heap.size wr w6 from C.o.trans (V.o.mono C.o.size));have br:=q_ ((Turn.of_below b3.o).owns HI.o.row (λg hg h=>by have:=a7.o g hg;have h2:wr.heap.size<=g:=h;omega));have bx:w6.cell? ⟨z+1,0,none⟩=some (QQ A3 k c3):=QX (ah.o w6 V.o) 0;have cn:(w6.alloc (XX #[QY QU id,QQ A6 J c6,QQ M m r] 72)).cell? ⟨z+1,0,none⟩=some (QQ A3 k c3):=(World.cell?_alloc_lt w6 _ _ (by show z+1<_;exact ba.o)).trans bx;have c5:=q_ (show ∀u∈([QY QU id,QQ A6 J c6,QQ M m r]:List XJ),u.oneCell'=true from λu hu=>by simp at hu;rcases hu with rfl | rfl | rfl<;>rfl)
   have NB:=q_ (XU w6 (XX #[QY QU id,QQ A6 J c6,QQ M m r] 72));have ck:=q_ (show (w6.alloc (XX #[QY QU id,QQ A6 J c6,QQ M m r] 72)).heap.size=w6.heap.size+1 by simp);have sB:=q_ (az.o w6 V.o);have sC:=q_ (az.o _ (V.o.alloc V.o.size (XX #[QY QU id,QQ A6 J c6,QQ M m r] 72)));clear Y S;refine d6_ hK ⟨sB.o,bx⟩ λq=>?_;refine ca_ 10 30 ?_ q (λw f=>?_) λq=>?_;rotate_left
   ·unfold z_;try dsimp only at f
    go_simp
    first | done | with_reducible rfl
   refine d7_ 11 λK hK=>?_;go_simp;refine d6_ hK ⟨sC.o,cn⟩ λq=>?_;refine d7_ 12 λK hK=>?_;refine wp_append_lies _ _ _ 51 rfl 0 72 i0 (.agg #[QY QU 0,QQ QK 0 0,QQ QK 0 0]) 3 56 underlying51 cu c8 c9 ca rfl (by decide) (QQ A3 k c3) k (R_ cs k) rfl (by exact br.o.alloc _) ⟨w6.heap.size,0,QK⟩ 1 1 [QY QU id,QQ A6 J c6,QQ M m r] rfl rfl (World.news_of_block (cs:=#[QY QU id,QQ A6 J c6,QQ M m r]) (by exact NB.o)) c5.o (by omega) (by unfold maxLen;omega) (by omega) (Nat.zero_le _) (w6.heap.size+1) (by exact ck.o) λg7 c7 w7 ar L aq _=>?_;have b8:=q_ ar;have ag:=q_ (show w6.grownBy w7 (Value.slice A3 k c3).ownBlock from ak_ (w:=w6) (o:=XX #[QY QU id,QQ A6 J c6,QQ M m r] 72) ⟨L.os,L.tape,L.output,L.size,L.block⟩);have b7:=q_ (show (Value.slice A3 k c3).ownBlock=QJ g7\/g7=w6.heap.size+1 from aq);have af:=q_ ((ag.o.block (z+1) (by have:=ba.o;omega) (λe=>by have:=a7.o (z+1) e.symm;omega)).trans (ah.o w6 V.o));have f7:w7.frozen? ⟨z+1,0,QK⟩=false:=YY af.o 0;have bz:w7.cell? ⟨z+1,0,QK⟩=QJ (QQ A3 k c3):=QX af.o 0;have bd:=q_ (λ(j:Nat)=>(show w7.cell? ⟨d,j,QK⟩=w6.cell? ⟨d,j,QK⟩ from (Turn.of_grown ag.o).cell (p:=⟨d,j,QK⟩) (show d<w6.heap.size from by have h1:w5.heap.size<=w6.heap.size:=V.o.size;have:=N.o;omega) (λe=>by have:=(a7.o d e.symm).2;have:=ac.o;omega)));have s7:=q_ (show (w7.cell? ⟨d,0,QK⟩=QJ (QY QU id)/\w7.cell? ⟨d,1,QK⟩=QJ (QQ A1 J d1)/\w7.cell? ⟨d,2,QK⟩=QJ (QQ T m U)) from ⟨(bd.o 0).trans sB.o.1,(bd.o 1).trans sB.o.2.1,(bd.o 2).trans sB.o.2.2⟩);have au:=q_ (show (⟨z+1,0,QK⟩:Addr).block≠d from (by show z+1≠d;have:=ae.o;have:=ac.o;omega));have s8:=q_ (show ((w7.setCell ⟨z+1,0,QK⟩ (QQ (QJ ⟨g7,0,QK⟩) (k+1) c7)).cell? ⟨d,0,QK⟩=QJ (QY QU id)/\(w7.setCell ⟨z+1,0,QK⟩ (QQ (QJ ⟨g7,0,QK⟩) (k+1) c7)).cell? ⟨d,1,QK⟩=QJ (QQ A1 J d1)/\(w7.setCell ⟨z+1,0,QK⟩ (QQ (QJ ⟨g7,0,QK⟩) (k+1) c7)).cell? ⟨d,2,QK⟩=QJ (QQ T m U)) from ⟨(World.cell?_setCell_far _ _ _ _ au.o).trans s7.o.1,(World.cell?_setCell_far _ _ _ _ au.o).trans s7.o.2.1,(World.cell?_setCell_far _ _ _ _ au.o).trans s7.o.2.2⟩);clear ar L aq;refine d6_ hK ⟨s7.o,bz⟩ λq=>?_;refine ca_ 13 33 ?_ q (λw f=>?_) λq=>?_;rotate_left
   ·unfold z_;try dsimp only at f
    go_simp
    first | done | with_reducible rfl
   refine u8_ 14 λK hK=>?_;go_simp;refine Bz_ hK ?_;have w1:IntKind.i64.wrap ((k:Int)+1)=(k:Int)+1:=YU _ (by omega);go_wp2_with fail;go_roundw
   case measure=>simp[intOf];omega
   case rel=>
    refine⟨k+1,QQ (QJ ⟨g7,0,QK⟩) (k+1) c7,by omega,by go_num,q_ ?_⟩;rw[f_ HX.o];have db:w5.heap.size<=wA.heap.size:=a6.o.size;have dc:wA.heap.size<=w6.heap.size:=ay.o.size
    have bp:NoO w6 (λb=>wr.heap.size<=b/\b<w6.heap.size) x #[QY QU id,QQ A6 J c6,QQ M m r]:=by
     refine⟨_,_,wA.heap.size,by rw[a2.o],?_,?_⟩
     ·exact (ci.o.turn TxR.good (Turn.of_below ay.o) (λb hb=>hb.2) (λb hb h=>by have:=hb.2;omega)).mono TxR.good (λb hb=>⟨⟨by have h1:w5.heap.size<=b:=hb.1;omega,by have:=hb.2;omega⟩,hb.2⟩)
     ·exact b9.o.mono PaR.good (λb hb=>⟨⟨by have:=hb.1;omega,hb.2⟩,hb.1⟩)
    exact Cg1.more a8.o HI.o b3.o bp rfl ag.o (by rcases b7.o with h | h;exact .inl h;exact .inr (by omega)) b8.o
  ·have ap:nN=k:=by omega
   have b1:=B.o.next;rw[YJ (by rw[ao.o,ap];exact XK _)]at b1;obtain⟨z2,cm⟩:=a_ wr.heap.size;rw[cm.o]at b1;have cj:=q_ b1;obtain⟨wq,d3⟩:=a_ wr;clear B b1;subst ap;go_upto_region 7 with fail;clear x0;go_wp2_with fail;go_loopw [6] (λs wx=>∃(k:Nat) (Es:XJ),k<=nE/\s = QY QU (k:Nat)/\Q_ (Cg2 w0 z z2 G.nodes (G.edges.take k) Xs Es wx)) (λs _=>nE-(intOf s).toNat)
   case atStart=>exact⟨0,_,by omega,rfl,q_ (by rw[List.take_zero];exact cj.o)⟩
   case round=>
    obtain⟨k,Es,hk,rfl,B⟩:=hrel;have x1:wr.cell? ⟨O,1,none⟩=some (QQ AE nE cE):=(B.o.below.cell (p:=⟨O,1,none⟩) (by show O<z;omega)).trans (QX bt.o 1);by_cases bn:k<nE
    ·obtain⟨x,hx⟩:∃x,G.edges[k]?=QJ x:=⟨G.edges[k]'(by rw[am.o];exact bn),XQ _⟩;have HX:=q_ hx;have a9:=q_ (b4.o.2.2.2 x (YZ hx));obtain⟨ad,T,U,rfl,bk,co,a4,q0,q1,q2,q3,q4⟩:=jf_ (cc.o.under EdR.good B.o.below (λb hb=>by omega)) hx;clear hx bk co;obtain⟨id,a2⟩:=a_ x.id;obtain⟨src,bh⟩:=a_ x.src;obtain⟨dst,bf⟩:=a_ x.dst;obtain⟨aa,bi⟩:=a_ x.type;obtain⟨m,ak⟩:=a_ x.props.length;rw[a2.o]at q0;rw[bh.o]at q1;rw[bf.o]at q2;rw[bi.o]at q3;rw[ak.o]at q4 a4;have b6:=q_ a4;obtain⟨d,a3⟩:=a_ wr.heap.size;obtain⟨w5,a1⟩:=a_ (wr.alloc (XX #[QY QU id,QY QU src,QY QU dst,QZ aa,QQ T m U] 74));have C:=q_ (show XW wr.heap.size wr w5 from by rw[<-a1.o];exact (XV _ _).alloc (XK _) _);have X:=q_ (show w5.heap[d]?=QJ (XX #[QY QU id,QY QU src,QY QU dst,QZ aa,QQ T m U] 74 (0,0)) from by rw[<-a1.o,<-a3.o];exact XU wr _);have a5:(G.edges.take k).length=k:=by rw[UJ,am.o];omega
     obtain⟨A3,c3,cs,a,h3,hI⟩:=B.o.own;rw[a5]at h3 hI;subst h3;have HI:=q_ hI;have a7:=q_ (show ∀b,(Value.slice A3 k c3).ownBlock=QJ b->z2<=b/\b<wr.heap.size from hI.own);have y:=q_ (show z+1<wr.heap.size from b_ B.o.box);have N:=q_ (show d<w5.heap.size from b_ X.o);have cx:z+2<=z2:=B.o.loc.1;have bq:wr.heap.size<=w5.heap.size:=C.o.size;have bo:=q_ (sl_ x.props a9.o.1.2.2 a9.o.1.2.1 (λb=>b<O) T m U w5 (λb hb=>by have:=y.o;omega) (b6.o.under PaR.good C.o (λb hb=>by have:=y.o;omega)));have n4:w5.cell? ⟨d,4,QK⟩=QJ (QQ T m U):=QX X.o 4;have a8:=q_ B.o;have c1:=a8.o.on C.o;have cg:=q_ c1.box;clear a5 hI B a4 c1;have e1:(0:Int)<=k:=by omega
     have e2:(k:Int)<nE:=by omega
     go_upto_region 11 with fail;rw[a3.o,a1.o];clear q0 q1 q2 q3 q4 x1;go_wp2_with fail;refine bo.o.mono ?_;rintro e w6 ⟨sB,rfl,Y,S⟩;obtain⟨M,r,rfl⟩:=S.form;rw[ak.o]at S ⊢;have b9:=q_ S;have ay:=q_ Y;have cz:w5.heap.size<=w6.heap.size:=Y.size;have b5:=q_ ((Y.block d N.o).trans X.o);have p4:w6.cell? ⟨d,4,none⟩=some (QQ T m U):=QX b5.o 4;have y4:w6.frozen? ⟨d,4,none⟩=false:=YY b5.o 4;clear Y S n4;go_upto_region 12 with fail;obtain⟨w8,bc⟩:=a_ (w6.setCell ⟨d,4,none⟩ (QQ M m r));have ai:=q_ (show w8.heap[d]?=some (XX #[QY QU id,QY QU src,QY QU dst,QZ aa,QQ M m r] 74 (0,0)) from by rw[<-bc.o];exact heap_setCell_same w6 d 4 _ _ _ b5.o);have bb:=q_ (show Turn (λb=>b=d) w6 w8 from by rw[<-bc.o];exact (Turn.refl (λb=>b=d) w6).setCell (p:=⟨d,4,none⟩) (.inr rfl) _);have ac:=q_ (show d=wr.heap.size from a3.o.symm);have aw:=q_ (show XW wr.heap.size wr w8 from (C.o.trans (ay.o.mono bq)).trans (bb.o.below (λi _ hi=>by have:=ac.o;omega) (by omega)));have d0:w6.heap.size<=w8.heap.size:=bb.o.size;have bu:=q_ (a8.o.on aw.o);have bs:=q_ ((Turn.of_below aw.o).owns HI.o.row (λg hg h=>by have:=a7.o g hg;have h2:wr.heap.size<=g:=h;omega));rw[bc.o];have g0:w8.cell? ⟨z+1,1,none⟩=some (QQ A3 k c3):=QX bu.o.box 1;have n0:w8.cell? ⟨d,0,none⟩=some (QY QU id):=QX ai.o 0;have n1:w8.cell? ⟨d,1,none⟩=some (QY QU src):=QX ai.o 1;have n2:w8.cell? ⟨d,2,none⟩=some (QY QU dst):=QX ai.o 2;have n3:w8.cell? ⟨d,3,none⟩=some (QZ aa):=QX ai.o 3;have n4:w8.cell? ⟨d,4,none⟩=some (QQ M m r):=QX ai.o 4;clear p4 y4;go_wp2_with (at_builtin;refine c5_ rfl _ _ 52 rfl 0 74 (.agg #[QY QU 0,QY QU 0,QY QU 0,QZ ⟨#[]⟩,QQ none 0 0]) 5 64 underlying52 qi_ rfl (by decide) (QQ A3 k c3) k (R_ cs k) rfl bs.o (Nat.zero_le _) #[QY QU id,QY QU src,QY QU dst,QZ aa,QQ M m r] 1 1 rfl rfl (λu hu=>by simp at hu;rcases hu with rfl | rfl | rfl | rfl | rfl<;>rfl) (by omega) (by omega) (by decide) ?_;intro g7 c7 w7 ar L aq;have b8:=q_ ar;have ag:=q_ L;have b7:=q_ aq;have af:=q_ ((L.block (z+1) (by have:=y.o;have:=aw.o.size;omega) (λe=>by have:=a7.o (z+1) e.symm;omega)).trans bu.o.box);have f7:w7.frozen? ⟨z+1,1,none⟩=false:=YY af.o 1;have bz:w7.cell? ⟨z+1,1,none⟩=some (QQ A3 k c3):=QX af.o 1;have w1:IntKind.i64.wrap ((k:Int)+1)=(k:Int)+1:=(YU _ (by omega));clear ar L aq)
     go_roundw
     case measure=>simp[intOf];omega
     case rel=>
      refine⟨k+1,QQ (QJ ⟨g7,0,QK⟩) (k+1) c7,by omega,by go_num,q_ ?_⟩;rw[f_ HX.o];have bp:EdO w8 (λb=>wr.heap.size<=b/\b<w8.heap.size) x #[QY QU id,QY QU src,QY QU dst,QZ aa,QQ M m r]:=by refine⟨_,by rw[a2.o,bh.o,bf.o,bi.o],?_⟩;exact (b9.o.turn PaR.good bb.o (λb hb=>hb.2) (λb hb h=>by have:=hb.1;have:=N.o;omega)).mono PaR.good (λb hb=>⟨by have:=hb.1;omega,by have:=hb.2;omega⟩)
      exact Cg2.more a8.o HI.o aw.o bp rfl ag.o b7.o b8.o
    ·have ap:nE=k:=by omega
     have I:=B.o;rw[YJ (by rw[am.o,ap];exact XK _)]at I;obtain⟨AX,cX,_,_,ct,_⟩:=id I.nodes;obtain⟨AY,cY,_,_,cq,_⟩:=id I.own;subst ct cq;have a0:=q_ I;have d4:wr.cell? ⟨z+1,0,QK⟩=QJ (QQ AX G.nodes.length cX):=QX I.box 0;have d5:wr.cell? ⟨z+1,1,QK⟩=QJ (QQ AY G.edges.length cY):=QX I.box 1;have r0:wr.cell? ⟨z,0,QK⟩=QJ (QQ QK 0 0):=QX I.res 0;have r1:wr.cell? ⟨z,1,QK⟩=QJ (QQ QK 0 0):=QX I.res 1;have y0:wr.frozen? ⟨z,0,QK⟩=false:=YY I.res 0;have y1:wr.frozen? ⟨z,1,QK⟩=false:=YY I.res 1;clear I B;subst ap;go_upto_region 13 with fail;clear x1;go_wp2_with fail;have h1:=heap_setCell_same _ z 1 _ _ (QQ AY G.edges.length cY) (heap_setCell_same _ z 0 _ _ (QQ AX G.nodes.length cX) a0.o.res);have ht:=(((Turn.refl (λb=>b=z) wr).setCell (p:=⟨z,0,QK⟩) (.inr rfl) (QQ AX G.nodes.length cX)).setCell (p:=⟨z,1,QK⟩) (.inr rfl) (QQ AY G.edges.length cY));obtain⟨W9,cl⟩:=a_ ((wr.setCell ⟨z,0,QK⟩ (QQ AX G.nodes.length cX)).setCell ⟨z,1,QK⟩ (QQ AY G.edges.length cY));rw[cl.o]at h1 ht ⊢;have k0:W9.cell? ⟨z,0,QK⟩=QJ (QQ AX G.nodes.length cX):=QX h1 0;have cw:W9.cell? ⟨z,1,QK⟩=QJ (QQ AY G.edges.length cY):=QX h1 1;have cy:=a0.o.loc;have d6:=b_ a0.o.box;have da:=av.o.size;refine ZV (v:=.agg #[QQ AX G.nodes.length cX,QQ AY G.edges.length cY]) (by simp[results,results30,go_sem,k0,cw]) rfl ⟨_,_,z2,rfl,?_,?_,?_,?_,?_⟩
     ·exact av.o.trans ((a0.o.below.mono (by rw[D.o];omega)).trans (ht.below (λi _ h=>by rw[D.o];omega) (by have:=a0.o.below.size;omega)))
     ·rw[D.o];omega
     ·have:=ht.size;omega
     ·exact (a0.o.nodes.turn NoO.good ht (λb _ _ h=>by omega)).low (by rw[D.o];omega)
     ·exact (a0.o.own.turn EdO.good ht (λb _ _ h=>by omega)).wide ht.size (XK _)
end
section
open Go Go.RowKit Go.Maps
theorem Ck_ {α : Type} {E sz:Nat} {R R':bu_ α} {w:QV} {F:Nat->Prop} {l:List α} {s:XJ} (h:x_ E sz R w F l s) (hi:∀{w:QV} {F:Nat->Prop} {x:α} {c:Array XJ},R w F x c->R' w F x c):x_ E sz R' w F l s:=by obtain⟨cs,h1,h2,d,f⟩:=h;exact⟨cs,h1,h2,d,λi x g=>hi (f i x g)⟩
theorem kz_ {v:g_} (h:af_ v):v.text.size<=1048576/\v.extra.size<=1048576:=by
 have d:=h.1
 have key:∀(k:Int) (b:Bool) (n:Int) (t x:ByteArray),v = .mk k b n t x []->t.size<=1048576->x.size<=1048576->v.text.size<=1048576/\v.extra.size<=1048576:=λk b n t x e h1 h2=>by
  rw[e];exact⟨h1,h2⟩
 have h0:(⟨#[]⟩:ByteArray).size<=1048576:=by decide
 rcases cd_ h with⟨_,e⟩ | ⟨_,e⟩ | ⟨_,_,e⟩ | ⟨f,e⟩
 ·exact key _ _ _ _ _ e h0 h0
 ·exact key _ _ _ _ _ e h0 h0
 ·rw[e]at d;exact key _ _ _ _ _ e (uy_ d).2.2.2.2 h0
 ·generalize v.kind=k at f e;rw[e]at d;rcases f with rfl | rfl | rfl | rfl
  ·have:=uz_ d;exact key _ _ _ _ _ e this.2.2.2.2 (by rw[this.2.2.1];exact h0)
  ·have:=ni_ d;exact key _ _ _ _ _ e this.2.2.2.2 (by rw[this.2.2.1];exact h0)
  ·have:=qf_ d;exact key _ _ _ _ _ e this.2.2.2.2 (by rw[this.2.2.1];exact h0)
  ·have:=o4_ d;exact key _ _ _ _ _ e this.2.2.2.1 this.2.2.2.2
theorem Bc_ {n:Nat} (h:n<=1000000000):VI (n:Int):=by
 unfold VI Lit.wf;have h1:IntKind.i64.min = -9223372036854775808:=by rfl
 have h2:IntKind.i64.max=9223372036854775807:=by rfl
 simp;rw[h1];omega
theorem qy_ {K:Type} [DecidableEq K] {D:List K} {v:K} (h:v∈D):place D v<D.length:=by
 induction D with
 | nil=>cases h
 | cons a r f=>
  rw[hs_];split
  ·simp
  ·rename_i d;rcases List.mem_cons.1 h with e | e
   ·exact absurd e.symm d
   ·have:=f e;simp;omega
theorem tb_ {D:List g_} {v:g_} (h:v∈D) (d:D.length<=150000):VI (bb_ D v):=by
 unfold bb_;classical
 exact Bc_ (by have:=qy_ h;omega)
theorem uw_ {k:ByteArray} {s:ByteArray} (d:k.size<=2000000) (f:s.size<=1048576):zf_ ⟨k,txV s⟩:=⟨d,by show S_ (g_.mk 4 false 0 s ⟨#[]⟩ [])<=2000000;have h0:(⟨#[]⟩:ByteArray).size=0:=rfl;simp only[S_,V_,h0];omega⟩
theorem He_ (j:Int) {v:g_} (h:af_ v):rm_ (U_ j v):=by
 obtain⟨ht,g⟩:=kz_ h;have hz:=nv_ h
 have d:∀{P:ByteArray->Prop} {s:ByteArray},P s->∀x,x∈[s]->P x:=λf x g=>by
  rw[List.mem_singleton.1 g];exact f
 unfold U_;split
 ·refine⟨by simp,by simp,d (by decide),λp f=>?_⟩;rw[List.mem_singleton.1 f];exact uw_ (by decide) ht
 ·split
  ·refine⟨by simp,by simp,d (by decide),λp f=>?_⟩;rw[List.mem_singleton.1 f];exact uw_ (by decide) ht
  ·split
   ·refine⟨by simp,by simp,d (by decide),λp f=>?_⟩;rcases List.mem_cons.1 f with e | e
    ·rw[e];exact uw_ (by decide) ht
    ·rw[List.mem_singleton.1 e];exact uw_ (by decide) g
   ·refine⟨by simp,by simp,d (by decide),λp f=>?_⟩;rw[List.mem_singleton.1 f];exact⟨(by decide:sV.size<=2000000),by show S_ v<=2000000;omega⟩
theorem Bu_ {T:List e_} (f:(ab_ T).length<=150000) (q:T.length<=65536) (m:∀v,v∈ab_ T->af_ v) (g:∀t,t∈T->t.s∈ab_ T/\t.o∈ab_ T) (d:∀t,t∈T->af_ t.p):j3_ (bn_ T):=by
 refine⟨?_,?_,λn j=>?_,λe h=>?_⟩
 ·show ((ab_ T).mapIdx _).length<=_;rw[List.length_mapIdx];omega
 ·show (T.mapIdx _).length<=_;rw[List.length_mapIdx];omega
 ·obtain⟨i,hi,e⟩:=List.mem_mapIdx.1 j;rw[<-e];refine⟨He_ _ (m _ (List.getElem_mem hi)),?_⟩;rw[dd_];exact Bc_ (by omega)
 ·obtain⟨i,hi,e⟩:=List.mem_mapIdx.1 h;rw[<-e];have ht:=List.getElem_mem hi;exact⟨⟨ZX (kz_ (d _ ht)).1 (by decide),by simp,λp d=>by simp at d⟩,Bc_ (by omega),tb_ (g _ ht).1 f,tb_ (g _ ht).2 f⟩
end
end Go.Proofs.YtefhfadjajcmkaaGreatDoor
