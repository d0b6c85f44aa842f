/- May a value be: checked, and what it calls. -/
import Derived.Test.YtefhfadjajcmkaaGreatDoorKzz
import Derived.Test.YtefhfadjajcmkaaGreatDoorR0
import Derived.Test.YtefhfadjajcmkaaGreatDoorProg
import Derived.WalkKit
import Derived.WalkSpells
import Derived.Lib.Hide
import Derived.Deep.QuietTactic
import Derived.BigQuiet
import Derived.IntWalk
import Derived.Outline
import Derived.StillTailTactics
import Derived.Deep.DeepCutAuto
import Derived.Test.YtefhfadjajcmkaaGreatDoorL0
import Derived.WalkLawsBesides
import Derived.OwnWalk
import Derived.Deep.AppendLies
import Derived.Maps.OwnSet
import Derived.Laws.IdiomStrings
import Derived.Lib.BufferRead
import Derived.Deep.RegionLaw
import Derived.Test.YtefhfadjajcmkaaGreatDoorShelf
import Derived.Deep.RegionHeld3
set_option linter.unusedVariables false
set_option linter.unusedSimpArgs false
set_option maxRecDepth 100000
set_option maxHeartbeats 64000000
namespace Go.Proofs.YtefhfadjajcmkaaGreatDoor
open Bool renaming and_eq_true→YJ
open Go.Ending renaming returned→XW
open Go.RowKit.Below renaming refl→XV
open Go.RowKit renaming Below→XU
open Nat renaming le_refl→XJ,lt_of_lt_of_le→XY,le_trans→YK
open Go.Obj renaming cells→XX
open List renaming getElem?_eq_getElem→XQ,mem_of_getElem?→YQ
open Tryz renaming prog→QW
open Go renaming World→QV,Value→XZ
open Go.IntKind renaming i64→QU
open Option renaming some→QJ,none→QY
open Go.Lib renaming cell_of_heap→QX
open Go.Value renaming slice→QQ,string→QZ,int→QK,bool→XK,pointer→YX,tuple→YY,iface→YU
open Go.Lib (cell_of_heap)
section
open Go Go.RowKit
inductive g_ where
 | mk (kind:Int) (truth:Bool) (num:Int) (text extra:ByteArray) (list:List g_):g_
namespace g_
def kind:g_->Int | mk k _ _ _ _ _=>k
def truth:g_->Bool | mk _ b _ _ _ _=>b
def num:g_->Int | mk _ _ n _ _ _=>n
def text:g_->ByteArray | mk _ _ _ t _ _=>t
def extra:g_->ByteArray | mk _ _ _ _ x _=>x
def list:g_->List g_ | mk _ _ _ _ _ l=>l
end g_
mutual
def M_:g_->Nat
 | .mk _ _ _ t x l=>1+t.size / 64+x.size / 64+Z_ l
def Z_:List g_->Nat
 | []=>0
 | v::r=>M_ v+Z_ r
end
theorem ft_ (v:g_):Z_ v.list<M_ v:=by cases v;simp only[M_,g_.list];omega
theorem dr_ {l:List g_} {v:g_} (h:v∈l):M_ v<=Z_ l:=by
 induction l with
 | nil=>cases h
 | cons a r b=>
  simp only[Z_];rcases List.mem_cons.1 h with rfl | h
  ·omega
  ·have:=b h;omega
theorem l8_ (a b:List g_):Z_ (a++b)=Z_ a+Z_ b:=by
 induction a with
 | nil=>simp[Z_]
 | cons v r c=>simp only[List.cons_append,Z_,c];omega
theorem An_ (l:List g_) (k:Nat):Z_ (l.take k)<=Z_ l:=by have:=l8_ (l.take k) (l.drop k);rw[List.take_append_drop]at this;omega
def c_ (v:g_) (s:XZ):Array XZ:=#[QK QU v.kind,XK v.truth,QK QU v.num,QZ v.text,QZ v.extra,s]
inductive VRd (w:QV) (F:Nat->Prop):g_->XZ->Prop where
 | mk (v:g_) (A:Option Addr) (cap:Nat) (ad:Addr) (cs:Nat->Array XZ) (hcap:v.list.length<=cap) (hA:0<v.list.length->A=QJ ad/\F ad.block)
     (hc:∀i,i<v.list.length->(cs i).size=6/\∀j,j<6->w.cell? (ad.add (i*6+j))=(cs i)[j]?)
     (hr:∀i x,v.list[i]?=QJ x->VRd w F x (.agg (cs i))):VRd w F v (.agg (c_ v (QQ A v.list.length cap)))
def LRd (w:QV) (F:Nat->Prop) (l:List g_) (A:Option Addr) (n:Nat):Prop:=
 n=l.length/\(0<n->∃ad,A=QJ ad/\F ad.block/\∀i x,l[i]?=QJ x->∃c:Array XZ,c.size=6/\(∀j,j<6->w.cell? (ad.add (i*6+j))=c[j]?)/\VRd w F x (.agg c))
section
variable {w w':QV} {F F':Nat->Prop} {v:g_} {u:XZ}
theorem VRd.inv (h:VRd w F v u):∃A a,u = .agg (c_ v (QQ A v.list.length a))/\v.list.length<=a/\LRd w F v.list A v.list.length:=by
 cases h with
 | mk _ A a ad cs b d e g=>
  refine⟨A,a,rfl,b,rfl,λf=>⟨ad,(d f).1,(d f).2,λi x c=>?_⟩⟩
  have hi:i<v.list.length:=by
   rcases Nat.lt_or_ge i v.list.length with h | h
   ·exact h
   ·rw[List.getElem?_eq_none h]at c;cases c
  exact⟨cs i,(e i hi).1,(e i hi).2,g i x c⟩
theorem VRd.of_list {A:Option Addr} {b:Nat} (e:v.list.length<=b) (h:LRd w F v.list A v.list.length):VRd w F v (.agg (c_ v (QQ A v.list.length b))):=by
 by_cases f:0<v.list.length
 ·obtain⟨ad,k,m,o⟩:=h.2 f
  have d:∀i,∃c:Array XZ,i<v.list.length->c.size=6/\(∀j,j<6->w.cell? (ad.add (i*6+j))=c[j]?)/\∀x,v.list[i]?=QJ x->VRd w F x (.agg c):=λi=>by
   by_cases hi:i<v.list.length
   ·obtain⟨c,h1,h2,g⟩:=o i _ (XQ hi)
    exact⟨c,λ_=>⟨h1,h2,λx a=>by
     rw[XQ hi]at a;injection a with a;subst a;exact g⟩⟩
   ·exact⟨#[],λh=>absurd h hi⟩
  refine .mk v A b ad (λi=>(d i).choose) e (λ_=>⟨k,m⟩) (λi hi=>⟨((d i).choose_spec hi).1,((d i).choose_spec hi).2.1⟩) λi x a=>?_
  have hi:i<v.list.length:=by
   rcases Nat.lt_or_ge i v.list.length with h | h
   ·exact h
   ·rw[List.getElem?_eq_none h]at a;cases a
  exact ((d i).choose_spec hi).2.2 x a
 ·exact .mk v A b ⟨0,0,QY⟩ (λ_=>#[]) e (λh=>absurd h f) (λi hi=>absurd hi (by omega)) (λi x a=>by
    rw[List.getElem?_eq_none (by omega)]at a;cases a)
theorem VRd.keep (h:VRd w F v u) (f:∀p:Addr,F p.block->w'.cell? p=w.cell? p):VRd w' F v u:=by
 induction h with
 | mk v A b ad cs a c d k g=>
  exact .mk v A b ad cs a c (λi hi=>⟨(d i hi).1,λj e=>(f _ (by rw[block_of_add];exact (c (by omega)).2)).trans ((d i hi).2 j e)⟩) g
theorem VRd.mono (h:VRd w F v u) (d:∀g,F g->F' g):VRd w F' v u:=by
 induction h with
 | mk v A b ad cs a c e i f=>exact .mk v A b ad cs a (λh=>⟨(c h).1,d _ (c h).2⟩) e f
variable {l:List g_} {A:Option Addr} {n:Nat}
theorem LRd.keep (h:LRd w F l A n) (b:∀p:Addr,F p.block->w'.cell? p=w.cell? p):LRd w' F l A n:=
 ⟨h.1,λk=>by
  obtain⟨ad,e,a,f⟩:=h.2 k;refine⟨ad,e,a,λi x m=>?_⟩;obtain⟨c,h1,h2,d⟩:=f i x m;exact⟨c,h1,λj g=>(b _ (by rw[block_of_add];exact a)).trans (h2 j g),d.keep b⟩⟩
theorem LRd.mono (h:LRd w F l A n) (a:∀g,F g->F' g):LRd w F' l A n:=
 ⟨h.1,λj=>by
  obtain⟨ad,e,f,d⟩:=h.2 j;refine⟨ad,e,a _ f,λi x k=>?_⟩;obtain⟨c,h1,h2,b⟩:=d i x k;exact⟨c,h1,h2,b.mono a⟩⟩
theorem LRd.nil (a:Nat) (b:a=0):LRd w F [] QY a:=⟨by simpa using b,λh=>absurd h (by omega)⟩
theorem LRd.drewN (h:LRd w F l A n) (m:Nat):LRd (w.drewN m) F l A n:=h.keep λ_ _=>rfl
theorem VRd.drewN (h:VRd w F v u) (m:Nat):VRd (w.drewN m) F v u:=h.keep λ_ _=>rfl
theorem LRd.under {B:Nat} (h:LRd w F l A n) (hb:XU B w w') (a:∀g,F g->g<B):LRd w' F l A n:=h.keep λ_ b=>hb.cell (a _ b)
theorem VRd.under {B:Nat} (h:VRd w F v u) (hb:XU B w w') (a:∀g,F g->g<B):VRd w' F v u:=h.keep λ_ b=>hb.cell (a _ b)
theorem LRd.at_ (h:LRd w F l A n) {i:Nat} {x:g_} (f:l[i]?=QJ x):∃ad s,A=QJ ad/\F ad.block/\(∃B a,s = QQ B x.list.length a/\x.list.length<=a/\LRd w F x.list B x.list.length)/\(∀j,j<6->w.cell? (ad.add (i*6+j))=(c_ x s)[j]?)/\VRd w F x (.agg (c_ x s)):=by
 have hi:i<l.length:=by
  rcases Nat.lt_or_ge i l.length with h | h
  ·exact h
  ·rw[List.getElem?_eq_none h]at f;cases f
 obtain⟨ad,e,k,m⟩:=h.2 (by rw[h.1];omega);obtain⟨c,_,h2,g⟩:=m i x f;obtain⟨B,a,d,b,o⟩:=g.inv;injection d with d;subst d;exact⟨ad,_,e,k,⟨B,a,rfl,b,o⟩,h2,g⟩
end
theorem a_ {b : Type} (a:b):∃x,Q_ (a=x):=⟨a,q_ rfl⟩
theorem f_ {a : Type} {l:List a} {k:Nat} {y:a} (h:l[k]?=QJ y):l.take (k+1)=l.take k++[y]:=by rw[List.take_add_one,h];rfl
theorem LRd.cellsAt {w:QV} {F:Nat->Prop} {l:List g_} {A:Option Addr} {n:Nat} (h:LRd w F l A n) {i:Nat} {x:g_} (p:l[i]?=QJ x) :
    ∃ad s,A=QJ ad/\F ad.block/\(∃B b,s = QQ B x.list.length b/\x.list.length<=b/\LRd w F x.list B x.list.length)/\VRd w F x (.agg (c_ x s)) /\
     w.cell? (ad.add (i*6))=QJ (QK QU x.kind)/\w.cell? ⟨(ad.add (i*6)).block,(ad.add (i*6)).off+1,QY⟩=QJ (XK x.truth)/\w.cell? ⟨(ad.add (i*6)).block,(ad.add (i*6)).off+2,QY⟩=QJ (QK QU x.num) /\
     w.cell? ⟨(ad.add (i*6)).block,(ad.add (i*6)).off+3,QY⟩=QJ (QZ x.text)/\w.cell? ⟨(ad.add (i*6)).block,(ad.add (i*6)).off+4,QY⟩=QJ (QZ x.extra)/\w.cell? ⟨(ad.add (i*6)).block,(ad.add (i*6)).off+5,QY⟩=QJ s:=by
 obtain⟨ad,s,e,k,m,a,o⟩:=h.at_ p;have j:=a 0 (by omega);have c:=a 1 (by omega);have d:=a 2 (by omega);have f:=a 3 (by omega);have c4:=a 4 (by omega);have g:=a 5 (by omega);rw[<-add_of_add]at c d f c4 g;exact⟨ad,s,e,k,m,o,j,c,d,f,c4,g⟩
theorem ce_ (l:List g_):l.length<=Z_ l:=by
 induction l with
 | nil=>simp
 | cons v r a=>
  simp only[Z_,List.length_cons];have:1<=M_ v:=by cases v;simp only[M_];omega
  omega
def Oa_ (n:Nat) (w:QV) (e:Ending) (w':QV):Prop:=e = XW (QK QU (n:Int))/\∃m,w'=w.drewN m
open Classical in
noncomputable def c6_ (a b:g_):Bool:=decide (a=b)
open Classical in
noncomputable def iy_ (a b:List g_):Bool:=decide (a=b)
theorem hm_ (a:g_):c6_ a a=true:=by unfold c6_;simp
theorem b9_ {a b:g_} (h:a≠b):c6_ a b=false:=by unfold c6_;simp[h]
theorem xy_ {a b:List g_} (h:a≠b):iy_ a b=false:=by unfold iy_;simp[h]
theorem Ak_ (a:List g_):iy_ a a=true:=by unfold iy_;simp
theorem ba_ {a b:ByteArray} (h:a≠b):(a.toList==b.toList)=false:=by rw[ByteArray.toList_eq,ByteArray.toList_eq];exact beq_eq_false_iff_ne.2 λe=>h (ByteArray.ext (Array.toList_inj.1 e))
def p_ (b:Bool) (w:QV) (e:Ending) (w':QV):Prop:=e = XW (XK b)/\XU w.heap.size w w'
theorem A_ {a b:Bool} {w w':QV} (h:a=b) (hb:XU w.heap.size w w'):p_ b w (XW (XK a)) w':=⟨by rw[h],hb⟩
theorem B_ (w:QV) (a b:Obj):XU w.heap.size w ((w.alloc a).alloc b):=(((XV _ _).alloc (XJ _) _).alloc (by simp) _)
theorem td_ (a b:g_) {F G:Nat->Prop} (A B:Option Addr) (ca cb:Nat) (w:QV) (T:∀g,F g->g<w.heap.size) (U:∀g,G g->g<w.heap.size)
    (R:LRd w F a.list A a.list.length) (S:LRd w G b.list B b.list.length)
    (C:∀w',LRd w' F a.list A a.list.length->LRd w' G b.list B b.list.length->(∀g,F g->g<w'.heap.size)->(∀g,G g->g<w'.heap.size)->Calls QW 64 #[QQ A a.list.length ca,QQ B b.list.length cb] w' (p_ (iy_ a.list b.list) w')) :
    Calls QW 22 #[.agg (c_ a (QQ A a.list.length ca)),.agg (c_ b (QQ B b.list.length cb))] w (p_ (c6_ a b) w):=by
 have h:=q_ C;have y:=q_ R;have z:=q_ S;have O:=q_ T;have P:=q_ U;clear C R S T U;obtain⟨k,t,n,s,x,l⟩:=a;obtain⟨L,D,m,r,j,i⟩:=b;unfold c_;simp only[g_.kind,g_.truth,g_.num,g_.text,g_.extra,g_.list]at h y z ⊢;obtain⟨p,X⟩:=a_ l.length;obtain⟨q,Y⟩:=a_ i.length;rw[X.o]at h y ⊢;rw[Y.o]at h z ⊢;have f:=q_ (B_ w (XX #[QK QU k,XK t,QK QU n,QZ s,QZ x,QQ A p ca] 39) (XX #[QK QU L,XK D,QK QU m,QZ r,QZ j,QQ B q cb] 39));by_cases h1:k=L
 ·subst h1;by_cases h2:t=D
  ·subst h2;by_cases E:n=m
   ·subst E;by_cases I:s=r
    ·subst I;by_cases J:x=j
     ·subst J;have hb:iy_ l i=c6_ (.mk k t n s x l) (.mk k t n s x i):=by unfold iy_ c6_;simp
      have N:=q_ hb;have W:=q_ (h.o _ (y.o.under f.o O.o) (z.o.under f.o P.o) (λg M=>by have:=O.o g M;have:=f.o.size;omega) (λg M=>by have:=P.o g M;have:=f.o.size;omega));clear hb;go_enter Tryz.func22,Tryz.ntmps22
      go_wp2_with fail;refine W.o.mono ?_;rintro e w5 ⟨rfl,V⟩;rw[N.o];go_wp2_with fail;go_ret;exact A_ rfl (f.o.trans (V.mono f.o.size))
     ·have t5:=ba_ J;have c:=b9_ (a:=.mk k t n s x l) (b:=.mk k t n s j i) (by simp[J]);have d:=q_ c;clear c J;go_enter Tryz.func22,Tryz.ntmps22
      go_wp2_with fail;go_ret;exact A_ d.o.symm f.o
    ·have t4:=ba_ I;have c:=b9_ (a:=.mk k t n s x l) (b:=.mk k t n r j i) (by simp[I]);have d:=q_ c;clear c I;go_enter Tryz.func22,Tryz.ntmps22
     go_wp2_with fail;go_ret;exact A_ d.o.symm f.o
   ·have t3:(n==m)=false:=by simpa using E
    have c:=b9_ (a:=.mk k t n s x l) (b:=.mk k t m r j i) (by simp[E]);have d:=q_ c;clear c E;go_enter Tryz.func22,Tryz.ntmps22
    go_wp2_with fail;go_ret;exact A_ d.o.symm f.o
  ·have t2:(t==D)=false:=by simpa using h2
   have c:=b9_ (a:=.mk k t n s x l) (b:=.mk k D m r j i) (by simp[h2]);have d:=q_ c;clear c h2;go_enter Tryz.func22,Tryz.ntmps22
   go_wp2_with fail;go_ret;exact A_ d.o.symm f.o
 ·have Z:(k==L)=false:=by simpa using h1
  have c:=b9_ (a:=.mk k t n s x l) (b:=.mk L D m r j i) (by simp[h1]);have d:=q_ c;clear c h1;go_enter Tryz.func22,Tryz.ntmps22
  go_wp2_with fail;go_ret;exact A_ d.o.symm f.o
theorem yc_ {a : Type} {l m:List a} {k:Nat} (h:l.take k=m.take k) (h1:l.length<=k) (h2:m.length<=k):l=m:=by rw[List.take_of_length_le h1,List.take_of_length_le h2]at h;exact h
theorem Lo_ (N:Nat):∀(l m:List g_) (_:Z_ l<N) (F G:Nat->Prop) (A B:Option Addr) (b q ca cb:Nat) (w:QV) (_:Z_ l<=1000000000000) (_:∀g,F g->g<w.heap.size) (_:∀g,G g->g<w.heap.size) (_:LRd w F l A b) (_:LRd w G m B q),
    Calls QW 64 #[QQ A b ca,QQ B q cb] w (p_ (iy_ l m) w):=by
 induction N with
 | zero=>exact λ_ _ h=>absurd h (Nat.not_lt_zero _)
 | succ N ih=>
  intro l m hN F G A B b q ca cb w p hF hG R S;have HL:=q_ R;have HM:=q_ S;have X:=q_ hF;have Y:=q_ hG;have IH:=q_ ih;have f:b=l.length:=R.1;have aa:b<=1000000000000:=by have:=ce_ l;omega
  have i:q=m.length:=S.1;have C:=q_ f;have D:=q_ i;clear R S hF hG ih;by_cases J:b=q
  ·subst J;clear f i;go_enter Tryz.func64,Tryz.ntmps64
   go_wp2_with fail;go_loopw [5] (λU wr=>∃k:Nat,k<=b/\U = QK QU (k:Nat)/\Q_ (l.take k=m.take k)/\XU w.heap.size w wr) (λU _=>b-(intOf U).toNat)
   case atStart=>exact⟨0,by omega,rfl,q_ (by simp),XV _ _⟩
   case round=>
    obtain⟨k,hk,rfl,O,c⟩:=hrel;have r:=q_ c;have Z:=q_ (HL.o.under c X.o);have a3:=q_ (HM.o.under c Y.o);have j:w.heap.size<=wr.heap.size:=c.size;clear c;by_cases a9:k<b
    ·obtain⟨x,z⟩:∃x,l[k]?=QJ x:=⟨l[k]'(by have:=C.o;omega),XQ _⟩;obtain⟨y,T⟩:∃y,m[k]?=QJ y:=⟨m[k]'(by have:=D.o;omega),XQ _⟩;have a8:=dr_ (YQ z);have a7:=ft_ x;obtain⟨ad,sx,rfl,_,⟨V,cx,rfl,_,E⟩,_,c0,c1,c2,c3,c4,c5⟩:=Z.o.cellsAt z;obtain⟨ae,sy,rfl,_,⟨W,cy,rfl,_,I⟩,_,d0,d1,d2,d3,d4,d5⟩:=a3.o.cellsAt T
     have a:=q_ (td_ x y V W cx cy wr.drew (F:=F) (G:=G) (λg P=>XY (X.o g P) j) (λg P=>XY (Y.o g P) j) (E.keep λ_ _=>rfl) (I.keep λ_ _=>rfl)
      (λw' h1 h2 h3 h4=>IH.o x.list y.list (by omega) F G V W _ _ cx cy w' (by omega) h3 h4 h1 h2))
     have HX:=q_ z;have HY:=q_ T;have e1:(0:Int)<=k:=by omega
     have e2:(k:Int)<b:=by omega
     clear z T a8 a7 E I;unfold c_ at a;obtain⟨lx,a1⟩:=a_ x.list.length;obtain⟨ly,a2⟩:=a_ y.list.length;rw[a1.o]at c5 a;rw[a2.o]at d5 a;by_cases t:x=y
     ·have p:=hm_ x;subst t;rw[p]at a;clear p;go_wp2_with fail;go_still_tail 8,(by kernel_rfl)
      change wpList _ _ _ _ _ (World.drew _);go_wp2_with fail;refine a.o.mono ?_;rintro e w5 ⟨rfl,s⟩;go_wp2_with fail;go_roundw
      case rel=>exact⟨k+1,by omega,by go_num,q_ (by rw[f_ HX.o,f_ HY.o,O.o]),r.o.drew.trans (s.mono j)⟩
      case measure=>simp[intOf];omega
     ·have p:=b9_ t;have d:iy_ l m=false:=xy_ (λe=>t (by have h1:=HX.o;rw[e,HY.o]at h1;exact (Option.some.inj h1).symm));have a0:=q_ d;rw[p]at a;clear p d;go_wp2_with fail;go_still_tail 8,(by kernel_rfl)
      change wpList _ _ _ _ _ (World.drew _);go_wp2_with fail;refine a.o.mono ?_;rintro e w5 ⟨rfl,s⟩;go_wp2_with fail;go_ret;exact A_ a0.o.symm (r.o.drew.trans (s.mono j))
    ·have a6:k=b:=by omega
     subst a6;have d:l=m:=yc_ O.o (by have:=C.o;omega) (by have:=D.o;omega);have M:iy_ l m=true:=by rw[d];exact Ak_ m
     have a5:=q_ M;clear d M;go_wp2_with fail;go_ret;exact A_ a5.o.symm r.o
  ·have L:iy_ l m=false:=xy_ (λe=>J (by rw[f,i,e]));have a4:=q_ L;have t1:((b:Int) != q)=true:=by simp;omega
   clear L f i;go_enter Tryz.func64,Tryz.ntmps64
   go_wp2_with fail;go_ret;exact A_ a4.o.symm (XV _ _)
def if_ (c:UInt8):Bool:=decide (c.toNat<=32\/c.toNat=60\/c.toNat=62)
def dw_ (s:ByteArray):Bool:=decide (1<=s.size/\s.size<=1048576)&&s.data.toList.all λc=>!if_ c
theorem aj_ (s:ByteArray):s.data.toList.length=s.size:=Array.length_toList
theorem eg_ (s:ByteArray) (k:Nat) (h:k<s.size):s.data.toList[k]?=QJ s[k]:=by rw[XQ (by rw[aj_];exact h)];rfl
theorem h6_ {p:UInt8->Bool} {l:List UInt8} {k:Nat} {c:UInt8} (h:l[k]?=QJ c) (a:(l.take k).all p=true) (b:p c=true):(l.take (k+1)).all p=true:=by rw[f_ h,List.all_append,a];simp[b]
theorem j7_ {p:UInt8->Bool} {l:List UInt8} {k:Nat} {c:UInt8} (h:l[k]?=QJ c) (a:p c=false):l.all p=false:=by rw[List.all_eq_false];exact⟨c,YQ h,by simp[a]⟩
theorem j_ {a b:Bool} (h:a=b):Ending.returned (XK a) = XW (XK b):=by rw[h]
theorem q2_ (s:ByteArray) (w:QV):Calls QW 191 #[QZ s] w λe w'=>e = XW (XK (dw_ s))/\w'=w:=by
 by_cases z:1<=s.size/\s.size<=1048576
 ·obtain⟨I,J⟩:=z;have h1:decide ((s.size:Int)<1)=false:=decide_eq_false (by omega);have h2:decide ((1048576:Int)<s.size)=false:=decide_eq_false (by omega);go_enter Tryz.func191,Tryz.ntmps191
  go_wp2_with fail;go_loop [3] (λi=>∃k:Nat,k<=s.size/\i = QK QU (k:Nat)/\Q_ ((s.data.toList.take k).all (λc=>!if_ c)=true)) (λi=>s.size-(intOf i).toNat)
  case atStart=>exact⟨0,by omega,rfl,q_ (by simp)⟩
  case round=>
   obtain⟨k,M,rfl,d⟩:=hrel;by_cases B:k<s.size
   ·have g:=q_ (eg_ s k B);obtain⟨x,C⟩:∃x:Nat,s[k].toNat=x:=⟨_,rfl⟩;have f:=q_ C;have L:x<256:=by rw[<-C];exact s[k].toNat_lt
    by_cases D:x<=32
    ·have a:=q_ (j7_ (p:=λc=>!if_ c) g.o (by simp[if_,f.o,D]));have q:(x:Int)<=32:=by omega
     go_wp2_with fail;go_ret;exact⟨j_ (by unfold dw_;rw[a.o];simp),rfl⟩
    ·have q:decide ((x:Int)<=32)=false:=decide_eq_false (by omega);by_cases E:x=60
     ·have a:=q_ (j7_ (p:=λc=>!if_ c) g.o (by simp[if_,f.o,E]));have r:((x:Int)==60)=true:=by simp;omega
      go_wp2_with fail;go_ret;exact⟨j_ (by unfold dw_;rw[a.o];simp),rfl⟩
     ·have r:((x:Int)==60)=false:=by simp;omega
      by_cases G:x=62
      ·have a:=q_ (j7_ (p:=λc=>!if_ c) g.o (by simp[if_,f.o,G]));have t:((x:Int)==62)=true:=by simp;omega
       go_wp2_with fail;go_ret;exact⟨j_ (by unfold dw_;rw[a.o];simp),rfl⟩
      ·have t:((x:Int)==62)=false:=by simp;omega
       have m:=q_ (h6_ g.o d.o (by simp[if_,f.o];omega));go_wp2_with fail;go_round
       case rel=>exact⟨k+1,by omega,by go_num,q_ m.o⟩
       case measure=>simp[intOf];omega
   ·have y:k=s.size:=by omega
    have b:=d.o;rw[List.take_of_length_le (by rw[aj_];omega)]at b;have j:=q_ b;clear d b;subst y;go_wp2_with fail;go_ret;exact⟨j_ (by unfold dw_;rw[j.o];simp;omega),rfl⟩
 ·have a:dw_ s=false:=by unfold dw_;simp only[decide_eq_false z];rfl
  have h:=q_ a;clear a;by_cases h0:s.size<1
  ·have h1:decide ((s.size:Int)<1)=true:=decide_eq_true (by omega);go_enter Tryz.func191,Tryz.ntmps191
   go_wp2_with fail;go_ret;exact⟨j_ h.o.symm,rfl⟩
  ·have h1:decide ((s.size:Int)<1)=false:=decide_eq_false (by omega);have h2:decide ((1048576:Int)<s.size)=true:=decide_eq_true (by omega);go_enter Tryz.func191,Tryz.ntmps191
   go_wp2_with fail;go_ret;exact⟨j_ h.o.symm,rfl⟩
theorem Bg_ (s:ByteArray) (J:s.size<=9223372036854775807) (w:QV):Calls QW 186 #[QZ s] w λe w'=>e = XW (XK (dw_ s))/\w'=w:=by
 go_enter Tryz.func186,Tryz.ntmps186
 go_wp2_with fail;go_loop [6] (λi=>∃k:Nat,k<=s.size/\i = QK QU (k:Nat)/\Q_ ((s.data.toList.take k).all (λc=>!if_ c)=true)) (λi=>s.size-(intOf i).toNat)
 case atStart=>exact⟨0,by omega,rfl,q_ (by simp)⟩
 case round=>
  obtain⟨k,I,rfl,f⟩:=hrel;by_cases y:k<s.size
  ·have h:=q_ (eg_ s k y);obtain⟨x,z⟩:∃x:Nat,s[k].toNat=x:=⟨_,rfl⟩;have g:=q_ z;have G:x<256:=by rw[<-z];exact s[k].toNat_lt
   by_cases B:x<=32
   ·have b:=q_ (j7_ (p:=λc=>!if_ c) h.o (by simp[if_,g.o,B]));have m:(x:Int)<=32:=by omega
    go_wp2_with fail;go_ret;exact⟨j_ (by unfold dw_;rw[b.o];simp),rfl⟩
   ·have m:decide ((x:Int)<=32)=false:=decide_eq_false (by omega);by_cases C:x=60
    ·have b:=q_ (j7_ (p:=λc=>!if_ c) h.o (by simp[if_,g.o,C]));have q:((x:Int)==60)=true:=by simp;omega
     go_wp2_with fail;go_ret;exact⟨j_ (by unfold dw_;rw[b.o];simp),rfl⟩
    ·have q:((x:Int)==60)=false:=by simp;omega
     by_cases D:x=62
     ·have b:=q_ (j7_ (p:=λc=>!if_ c) h.o (by simp[if_,g.o,D]));have r:((x:Int)==62)=true:=by simp;omega
      go_wp2_with fail;go_ret;exact⟨j_ (by unfold dw_;rw[b.o];simp),rfl⟩
     ·have r:((x:Int)==62)=false:=by simp;omega
      have j:=q_ (h6_ h.o f.o (by simp[if_,g.o];omega));go_wp2_with fail;go_round
      case rel=>exact⟨k+1,by omega,by go_num,q_ j.o⟩
      case measure=>simp[intOf];omega
  ·have t:k=s.size:=by omega
   have a:=f.o;rw[List.take_of_length_le (by rw[aj_];omega)]at a;have d:=q_ a;clear f a;subst t;by_cases h0:1<=s.size
   ·have h1:decide ((1:Int)<=s.size)=true:=decide_eq_true (by omega);by_cases h2:s.size<=1048576
    ·have E:decide ((s.size:Int)<=1048576)=true:=decide_eq_true (by omega);go_wp2_with fail;go_ret;exact⟨j_ (by unfold dw_;rw[d.o];simp;omega),rfl⟩
    ·have E:decide ((s.size:Int)<=1048576)=false:=decide_eq_false (by omega);go_wp2_with fail;go_ret;exact⟨j_ (by unfold dw_;rw[d.o];simp;omega),rfl⟩
   ·have h1:decide ((1:Int)<=s.size)=false:=decide_eq_false (by omega);go_wp2_with fail;go_ret;exact⟨j_ (by unfold dw_;rw[d.o];simp;omega),rfl⟩
def e1_ (x:Nat):Bool:=decide ((97<=x/\x<=122)\/(65<=x/\x<=90)\/x=95)
def b0_ (x:Nat):Bool:=decide (48<=x/\x<=57)
def gx_ (c:UInt8):Bool:=e1_ c.toNat || b0_ c.toNat
def dx_ (s:ByteArray):Bool:=decide (1<=s.size/\s.size<=64)&&((s.data.toList.head?.map λc=>!b0_ c.toNat).getD false&&s.data.toList.all gx_)
theorem ja_ {s:ByteArray} (h:0<s.size):s.data.toList.head?=QJ (s[0]' h):=by have:=eg_ s 0 h;rw[List.head?_eq_getElem?];exact this
theorem nb_ {s:ByteArray} (h:¬(1<=s.size/\s.size<=64)):dx_ s=false:=by unfold dx_;simp only[decide_eq_false h];rfl
theorem Bm_ {s:ByteArray} {k:Nat} {c:UInt8} (h:s.data.toList[k]?=QJ c) (a:gx_ c=false):dx_ s=false:=by unfold dx_;rw[j7_ h a];simp
theorem w2_ {s:ByteArray} {c:UInt8} (h:s.data.toList[0]?=QJ c) (a:b0_ c.toNat=true):dx_ s=false:=by unfold dx_;rw[List.head?_eq_getElem?,h];simp[a]
theorem w3_ {s:ByteArray} (h1:1<=s.size) (h2:s.size<=64) (h0:∀c,s.data.toList[0]?=QJ c->b0_ c.toNat=false) (a:s.data.toList.all gx_=true):dx_ s=true:=by unfold dx_;rw[a,ja_ (by omega)];have:=h0 _ (eg_ s 0 (by omega));simp[h1,h2,this]
theorem Ig_ (s:ByteArray) (hs:s.size<=9223372036854775807) (w:QV):Calls QW 187 #[QZ s] w λe w'=>e = XW (XK (dx_ s))/\w'=w:=by
 go_enter Tryz.func187,Tryz.ntmps187
 go_wp2_with fail;go_loop [8] (λi=>∃k:Nat,k<=s.size/\i = QK QU (k:Nat)/\Q_ ((s.data.toList.take k).all gx_=true/\∀c,0<k->s.data.toList[0]?=QJ c->b0_ c.toNat=false)) (λi=>s.size-(intOf i).toNat)
 case atStart=>exact⟨0,by omega,rfl,q_ ⟨by simp,λc h=>absurd h (by omega)⟩⟩
 case round=>
  obtain⟨k,hk,rfl,b⟩:=hrel;by_cases O:k<s.size
  ·have p:=q_ (eg_ s k O);obtain⟨x,P⟩:∃x:Nat,s[k].toNat=x:=⟨_,rfl⟩;have y:=q_ P;have a0:x<256:=by rw[<-P];exact s[k].toNat_lt
   go_upto_region 5 with fail;go_cut [5] (λX Y=>X = XK (e1_ x)/\Y=w)
   case first=>
    by_cases S:97<=x
    ·by_cases T:x<=122
     ·have z:decide ((97:Int)<=x)=true:=decide_eq_true (by omega);have G:decide ((x:Int)<=122)=true:=decide_eq_true (by omega);have a:e1_ x=true:=decide_eq_true (.inl ⟨S,T⟩);go_wp2_with fail;go_meet;exact⟨by rw[a],rfl⟩
     ·have z:decide ((97:Int)<=x)=true:=decide_eq_true (by omega);have G:decide ((x:Int)<=122)=false:=decide_eq_false (by omega);have r:decide ((65:Int)<=x)=true:=decide_eq_true (by omega);have L:decide ((x:Int)<=90)=false:=decide_eq_false (by omega);have I:((x:Int)==95)=false:=by simp;omega
      have a:e1_ x=false:=decide_eq_false (by omega);go_wp2_with fail;go_meet;exact⟨by rw[a],rfl⟩
    ·have z:decide ((97:Int)<=x)=false:=decide_eq_false (by omega);by_cases U:65<=x
     ·have r:decide ((65:Int)<=x)=true:=decide_eq_true (by omega);by_cases V:x<=90
      ·have L:decide ((x:Int)<=90)=true:=decide_eq_true (by omega);have a:e1_ x=true:=decide_eq_true (.inr (.inl ⟨U,V⟩));go_wp2_with fail;go_meet;exact⟨by rw[a],rfl⟩
      ·have L:decide ((x:Int)<=90)=false:=decide_eq_false (by omega);by_cases J:x=95
       ·have I:((x:Int)==95)=true:=by simp;omega
        have a:e1_ x=true:=decide_eq_true (.inr (.inr J));clear J;go_wp2_with fail;go_meet;exact⟨by rw[a],rfl⟩
       ·have I:((x:Int)==95)=false:=by simp;omega
        have a:e1_ x=false:=decide_eq_false (by omega);go_wp2_with fail;go_meet;exact⟨by rw[a],rfl⟩
     ·have r:decide ((65:Int)<=x)=false:=decide_eq_false (by omega);have I:((x:Int)==95)=false:=by simp;omega
      have a:e1_ x=false:=decide_eq_false (by omega);go_wp2_with fail;go_meet;exact⟨by rw[a],rfl⟩
   case rest=>
    obtain⟨C,rfl⟩:=hcut;by_cases a:e1_ x=true
    ·rw[a]at C;subst C;have j:gx_ s[k]=true:=by unfold gx_;rw[y.o,a];rfl
     have E:b0_ x=false:=by unfold e1_ at a;have:=of_decide_eq_true a;exact decide_eq_false (by omega)
     have q:=q_ (h6_ p.o b.o.1 j)
     have D:=q_ (show ∀c,0<k+1->s.data.toList[0]?=QJ c->b0_ c.toNat=false from λc _ h0=>by
      by_cases f:k=0
      ·have h1:=p.o;subst f;rw[h0]at h1;rw[Option.some.inj h1,y.o];exact E
      ·exact b.o.2 c (by omega) h0)
     clear j a E;go_wp2_with fail;go_round
     case rel=>exact⟨k+1,by omega,by go_num,q_ ⟨q.o,D.o⟩⟩
     case measure=>simp[intOf];omega
    ·have a:e1_ x=false:=by simpa using a
     rw[a]at C;subst C;have R:=q_ a;clear a;by_cases D:48<=x/\x<=57
     ·have z:decide ((x:Int)<48)=false:=decide_eq_false (by omega);have G:decide ((57:Int)<x)=false:=decide_eq_false (by omega);have d:b0_ x=true:=decide_eq_true D;by_cases f:k=0
      ·have m:=q_ (show dx_ s=false from w2_ (c:=s[k]) (by have h1:=p.o;subst f;exact h1) (by rw[y.o];exact d));have r:((k:Int)==0)=true:=by simp;omega
       clear d f;go_wp2_with fail;go_ret;exact⟨j_ m.o.symm,rfl⟩
      ·have j:gx_ s[k]=true:=by unfold gx_;rw[y.o,d];simp
       have q:=q_ (h6_ p.o b.o.1 j);have M:=q_ (show ∀c,0<k+1->s.data.toList[0]?=QJ c->b0_ c.toNat=false from λc _ h0=>b.o.2 c (by omega) h0);have r:((k:Int)==0)=false:=by simp;omega
       clear d j;go_wp2_with fail;go_round
       case rel=>exact⟨k+1,by omega,by go_num,q_ ⟨q.o,M.o⟩⟩
       case measure=>simp[intOf];omega
     ·have d:b0_ x=false:=decide_eq_false D;have j:gx_ s[k]=false:=by unfold gx_;rw[y.o,d,R.o];rfl
      have m:=q_ (Bm_ p.o j);clear d j;by_cases f:k=0
      ·have r:((k:Int)==0)=true:=by simp;omega
       clear f;go_wp2_with fail;go_ret;exact⟨j_ m.o.symm,rfl⟩
      ·have r:((k:Int)==0)=false:=by simp;omega
       by_cases Z:x<48
       ·have z:decide ((x:Int)<48)=true:=decide_eq_true (by omega);go_wp2_with fail;go_ret;exact⟨j_ m.o.symm,rfl⟩
       ·have z:decide ((x:Int)<48)=false:=decide_eq_false (by omega);have G:decide ((57:Int)<x)=true:=decide_eq_true (by omega);go_wp2_with fail;go_ret;exact⟨j_ m.o.symm,rfl⟩
  ·have N:k=s.size:=by omega
   have g:=b.o;rw[List.take_of_length_le (by rw[aj_];omega)]at g;have t:=q_ g;clear b g;subst N;by_cases h0:1<=s.size
   ·have h1:decide ((1:Int)<=s.size)=true:=decide_eq_true (by omega);by_cases h2:s.size<=64
    ·have W:decide ((s.size:Int)<=64)=true:=decide_eq_true (by omega);have B:=q_ (w3_ h0 h2 (λc p=>t.o.2 c (by omega) p) t.o.1);go_wp2_with fail;go_ret;exact⟨j_ B.o.symm,rfl⟩
    ·have W:decide ((s.size:Int)<=64)=false:=decide_eq_false (by omega);have B:=q_ (nb_ (s:=s) (by omega));go_wp2_with fail;go_ret;exact⟨j_ B.o.symm,rfl⟩
   ·have h1:decide ((1:Int)<=s.size)=false:=decide_eq_false (by omega);have B:=q_ (nb_ (s:=s) (by omega));go_wp2_with fail;go_ret;exact⟨j_ B.o.symm,rfl⟩
theorem xq_ (s:ByteArray) (w:QV):Calls QW 192 #[QZ s] w λe w'=>e = XW (XK (dx_ s))/\w'=w:=by
 by_cases U:1<=s.size/\s.size<=64
 ·obtain⟨V,W⟩:=U;have h1:decide ((s.size:Int)<1)=false:=decide_eq_false (by omega);have h2:decide ((64:Int)<s.size)=false:=decide_eq_false (by omega);have h3:(0:Int)<s.size:=by omega
  have R:0<s.size:=by omega
  have z:=q_ (eg_ s 0 (by omega));obtain⟨x,Z⟩:∃x:Nat,(s[0]' R).toNat=x:=⟨_,rfl⟩;have L:=q_ Z;by_cases S:48<=x/\x<=57
  ·have r:decide ((48:Int)<=x)=true:=decide_eq_true (by omega);have C:decide ((x:Int)<=57)=true:=decide_eq_true (by omega);have d:=q_ (w2_ z.o (by rw[L.o];exact decide_eq_true S));go_enter Tryz.func192,Tryz.ntmps192
   go_wp2_with fail;go_ret;exact⟨j_ d.o.symm,rfl⟩
  ·have B:b0_ x=false:=decide_eq_false S
   have HD:=q_ (show ∀c,s.data.toList[0]?=QJ c->b0_ c.toNat=false from λc q=>by
    rw[z.o]at q;rw[<-Option.some.inj q,L.o];exact B)
   clear B;go_enter Tryz.func192,Tryz.ntmps192
   go_upto_region 1 with fail;go_cut [22] (λa0 J=>a0 = XK false/\J=w)
   case first=>
    by_cases h:48<=x
    ·have r:decide ((48:Int)<=x)=true:=decide_eq_true (by omega);have C:decide ((x:Int)<=57)=false:=decide_eq_false (by omega);go_wp2_with fail;go_meet;exact⟨rfl,rfl⟩
    ·have r:decide ((48:Int)<=x)=false:=decide_eq_false (by omega);go_wp2_with fail;go_meet;exact⟨rfl,rfl⟩
   case rest=>
    obtain⟨rfl,rfl⟩:=hcut;clear Z;go_wp2_with fail;go_loop [3] (λi=>∃k:Nat,k<=s.size/\i = QK QU (k:Nat)/\Q_ ((s.data.toList.take k).all gx_=true)) (λi=>s.size-(intOf i).toNat)
    case atStart=>exact⟨0,by omega,rfl,q_ (by simp)⟩
    case round=>
     obtain⟨k,hk,rfl,m⟩:=hrel;by_cases X:k<s.size
     ·have q:=q_ (eg_ s k X);obtain⟨y,t⟩:∃y:Nat,s[k].toNat=y:=⟨_,rfl⟩;have M:=q_ t;have a4:y<256:=by rw[<-t];exact s[k].toNat_lt
      go_upto_region 7 with fail;go_cut [58] (λa3 J=>a3 = XK (!(e1_ y || b0_ y))/\J=wc)
      case first=>
       have Y:∀b:Bool,(e1_ y || b0_ y)=b->Value.bool (!b) = XK (!(e1_ y || b0_ y)):=λb hb=>by rw[hb]
       have g:=q_ Y;clear Y;by_cases a1:97<=y
       ·have r:decide ((97:Int)<=y)=true:=decide_eq_true (by omega);have O:decide ((65:Int)<=y)=true:=decide_eq_true (by omega);have P:decide ((y:Int)<=90)=false:=decide_eq_false (by omega);have E:decide ((48:Int)<=y)=true:=decide_eq_true (by omega);have G:decide ((y:Int)<=57)=false:=decide_eq_false (by omega);have D:((y:Int)==95)=false:=by simp;omega
        by_cases a2:y<=122
        ·have C:decide ((y:Int)<=122)=true:=decide_eq_true (by omega);have hb:=g.o true (by unfold e1_ b0_;simp;omega);have a:=q_ hb;clear hb;go_wp2_with fail;go_meet;exact⟨a.o,rfl⟩
        ·have C:decide ((y:Int)<=122)=false:=decide_eq_false (by omega);have hb:=g.o false (by unfold e1_ b0_;simp;omega);have a:=q_ hb;clear hb;go_wp2_with fail;go_meet;exact⟨a.o,rfl⟩
       ·have r:decide ((97:Int)<=y)=false:=decide_eq_false (by omega);by_cases b1:65<=y
        ·have O:decide ((65:Int)<=y)=true:=decide_eq_true (by omega);have E:decide ((48:Int)<=y)=true:=decide_eq_true (by omega);have G:decide ((y:Int)<=57)=false:=decide_eq_false (by omega);by_cases b2:y<=90
         ·have P:decide ((y:Int)<=90)=true:=decide_eq_true (by omega);have hb:=g.o true (by unfold e1_ b0_;simp;omega);have a:=q_ hb;clear hb;go_wp2_with fail;go_meet;exact⟨a.o,rfl⟩
         ·have P:decide ((y:Int)<=90)=false:=decide_eq_false (by omega);by_cases N:y=95
          ·have D:((y:Int)==95)=true:=by simp;omega
           have hb:=g.o true (by unfold e1_ b0_;simp;omega);have a:=q_ hb;clear hb N;go_wp2_with fail;go_meet;exact⟨a.o,rfl⟩
          ·have D:((y:Int)==95)=false:=by simp;omega
           have hb:=g.o false (by unfold e1_ b0_;simp;omega);have a:=q_ hb;clear hb N;go_wp2_with fail;go_meet;exact⟨a.o,rfl⟩
        ·have O:decide ((65:Int)<=y)=false:=decide_eq_false (by omega);have D:((y:Int)==95)=false:=by simp;omega
         by_cases d1:48<=y
         ·have E:decide ((48:Int)<=y)=true:=decide_eq_true (by omega);by_cases d2:y<=57
          ·have G:decide ((y:Int)<=57)=true:=decide_eq_true (by omega);have hb:=g.o true (by unfold e1_ b0_;simp;omega);have a:=q_ hb;clear hb;go_wp2_with fail;go_meet;exact⟨a.o,rfl⟩
          ·have G:decide ((y:Int)<=57)=false:=decide_eq_false (by omega);have hb:=g.o false (by unfold e1_ b0_;simp;omega);have a:=q_ hb;clear hb;go_wp2_with fail;go_meet;exact⟨a.o,rfl⟩
         ·have E:decide ((48:Int)<=y)=false:=decide_eq_false (by omega);have hb:=g.o false (by unfold e1_ b0_;simp;omega);have a:=q_ hb;clear hb;go_wp2_with fail;go_meet;exact⟨a.o,rfl⟩
      case rest=>
       obtain⟨p,rfl⟩:=hcut;by_cases j:(e1_ y || b0_ y)=true
       ·have I:=q_ (h6_ q.o m.o (by unfold gx_;rw[M.o,j]));rw[j]at p;subst p;clear j;go_wp2_with fail;go_round
        case rel=>exact⟨k+1,by omega,by go_num,q_ I.o⟩
        case measure=>simp[intOf];omega
       ·have j:(e1_ y || b0_ y)=false:=by simpa using j
        have d:=q_ (Bm_ q.o (by unfold gx_;rw[M.o,j]));rw[j]at p;subst p;clear j;go_wp2_with fail;go_ret;exact⟨j_ d.o.symm,rfl⟩
     ·have T:k=s.size:=by omega
      have f:=m.o;rw[List.take_of_length_le (by rw[aj_];omega)]at f;have t:=q_ (w3_ V W HD.o f);clear m f;subst T;go_wp2_with fail;go_ret;exact⟨j_ t.o.symm,rfl⟩
 ·have d:=q_ (nb_ U);by_cases h0:s.size<1
  ·have h1:decide ((s.size:Int)<1)=true:=decide_eq_true (by omega);go_enter Tryz.func192,Tryz.ntmps192
   go_wp2_with fail;go_ret;exact⟨j_ d.o.symm,rfl⟩
  ·have h1:decide ((s.size:Int)<1)=false:=decide_eq_false (by omega);have h2:decide ((64:Int)<s.size)=true:=decide_eq_true (by omega);go_enter Tryz.func192,Tryz.ntmps192
   go_wp2_with fail;go_ret;exact⟨j_ d.o.symm,rfl⟩
theorem m4_ (x:Nat) (d:x<256) (w:QV):Calls QW 320 #[QK .u8 (x:Int)] w λe w'=>e = XW (XK (b0_ x))/\w'=w:=by
 go_enter Tryz.func320,Tryz.ntmps320
 by_cases h1:x<48
 ·have b:decide ((48:Int)<=x)=false:=decide_eq_false (by omega);have a:b0_ x=false:=decide_eq_false (by omega);go_wp2_with fail;go_ret;exact⟨j_ a.symm,rfl⟩
 ·have b:decide ((48:Int)<=x)=true:=decide_eq_true (by omega);by_cases h2:x<=57
  ·have c:decide ((x:Int)<=57)=true:=decide_eq_true (by omega);have a:b0_ x=true:=decide_eq_true (by omega);go_wp2_with fail;go_ret;exact⟨j_ a.symm,rfl⟩
  ·have c:decide ((x:Int)<=57)=false:=decide_eq_false (by omega);have a:b0_ x=false:=decide_eq_false (by omega);go_wp2_with fail;go_ret;exact⟨j_ a.symm,rfl⟩
def ac_ (w:QV) (A:Option Addr) (D:List Nat):Prop:=∀(i:Nat) (x:Nat),D[i]?=QJ x->∃ad,A=QJ ad/\(ad.add i).block<w.heap.size/\w.cell? (ad.add i)=QJ (QK QU (x:Int))
theorem ac_.under {w w':QV} {A:Option Addr} {D:List Nat} (h:ac_ w A D) (hb:XU w.heap.size w w'):ac_ w' A D:=λi x d=>by
 obtain⟨ad,b,a,c⟩:=h i x d;exact⟨ad,b,XY a hb.size,(hb.cell (p:=ad.add i) a).trans c⟩
def atD (D:List Nat) (i:Nat):Nat:=(D[i]?).getD 0
theorem ic_ (D:List Nat) (A:Option Addr) (d:Nat) (i:Nat) (hi:i<=4000000000000) (w:QV) (h:ac_ w A D) :
    Calls QW 321 #[QQ A D.length d,QK QU (i:Int)] w (Oa_ (atD D i) w):=by
 have f:=q_ h;clear h;obtain⟨n,c⟩:=a_ D.length;rw[c.o];go_enter Tryz.func321,Tryz.ntmps321
 have e0:decide ((i:Int)<0)=false:=decide_eq_false (by omega);by_cases e:i<n
 ·have b:i<D.length:=by rw[c.o];exact e
  obtain⟨ad,rfl,_,k⟩:=f.o i _ (XQ b);have a:atD D i=D[i]:=by unfold atD;rw[XQ b];rfl
  rw[a];obtain⟨x,g⟩:=a_ D[i];rw[g.o]at k ⊢;have j:decide ((n:Int)<=i)=false:=decide_eq_false (by omega);have m:(0:Int)<=i:=by omega
  have p:(i:Int)<n:=by omega
  clear a;go_wp2_with fail;go_ret;exact⟨rfl,0,rfl⟩
 ·have a:atD D i=0:=by unfold atD;rw[List.getElem?_eq_none (by rw[c.o];omega)];rfl
  rw[a];have j:decide ((n:Int)<=i)=true:=decide_eq_true (by omega);clear a;go_wp2_with fail;go_ret;exact⟨rfl,0,rfl⟩
def M2_ (b:Bool) (w:QV) (e:Ending) (w':QV):Prop:=e = XW (XK b)/\∃m,w'=w.drewN m
theorem B9_ {p:Nat->Bool} {l:List Nat} {k:Nat} {c:Nat} (h:l[k]?=QJ c) (a:(l.take k).all p=true) (b:p c=true):(l.take (k+1)).all p=true:=by rw[f_ h];simp[a,b]
theorem J5_ {p:Nat->Bool} {l:List Nat} {k:Nat} {c:Nat} (h:l[k]?=QJ c) (a:p c=false):l.all p=false:=by rw[List.all_eq_false];exact⟨c,YQ h,by simp[a]⟩
def ga_ (D:List Nat):Bool:=D.all (· == 0)
theorem yq_ (D:List Nat) (B:D.length<=4000000000000) (A:Option Addr) (q:Nat) (w:QV) (h:ac_ w A D) :
    Calls QW 253 #[QQ A D.length q] w (M2_ (ga_ D) w):=by
 have y:=q_ h;clear h;obtain⟨n,d⟩:=a_ D.length;rw[d.o]at B ⊢;go_enter Tryz.func253,Tryz.ntmps253
 go_wp2_with fail;go_loopw [3] (λj wr=>∃k m:Nat,k<=n/\j = QK QU (k:Nat)/\Q_ ((D.take k).all (· == 0)=true)/\wr=w.drewN m) (λj _=>n-(intOf j).toNat)
 case atStart=>exact⟨0,0,by omega,rfl,q_ (by simp),rfl⟩
 case round=>
  obtain⟨k,m,J,rfl,a,f⟩:=hrel;have e:=q_ f;have z:=q_ (show ac_ wr A D from by rw[f];exact y.o);clear f;by_cases s:k<n
  ·have b:k<D.length:=by rw[d.o];exact s
   obtain⟨ad,rfl,_,C⟩:=z.o k _ (XQ b);have g:=q_ (show D[k]?=QJ D[k] from XQ b);obtain⟨x,p⟩:=a_ D[k];rw[p.o]at C g;clear p b;have E:(0:Int)<=k:=by omega
   have G:(k:Int)<n:=by omega
   by_cases c:x=0
   ·subst c;have i:=q_ (show (D.take (k+1)).all (· == 0)=true from B9_ g.o a.o rfl);go_wp2_with fail;go_roundw
    case rel=>exact⟨k+1,m,by omega,by go_num,i,e.o⟩
    case measure=>simp[intOf];omega
   ·have t:=q_ (show ga_ D=false from J5_ g.o (by simpa using c));have I:((x:Int)==0)=false:=by simp;omega
    clear c;go_wp2_with fail;go_ret;exact⟨j_ t.o.symm,m,e.o⟩
  ·have r:k=n:=by omega
   subst r;have hz:=q_ (show ga_ D=true from by have:=a.o;rwa [List.take_of_length_le (by rw[d.o];omega)]at this);go_wp2_with fail;go_ret;exact⟨j_ hz.o.symm,m,e.o⟩
end
section
open Go Go.RowKit Go.Maps Go.WideMaps
theorem az_ {w w':QV} {o:Obj} {a:Option Nat} (h:(w.alloc o).grownBy w' a):w.grownBy w' a:=
 ⟨h.os,h.tape,h.output,YK (by simp) h.size,λk c b=>(h.block k (by simp;omega) b).trans (Below.heap_alloc w o k c)⟩
theorem c7_ {P:Program} {wr:QV} {j:Array Oper} {rest:List Oper} {o:Oper} {a:Act} {Q:Exit->Act->QV->Prop} (p:o.guard=QY) (s x:Operand) (t:TypeId)
    (L:o.op = .call { callee:=.builtin .append,args:=#[s,x],argTypes:=#[t,t] })
    (b:Nat) (e:TypeId) (z:XZ) (size bytes:Nat) (ht:P.underlying t=QJ (.slice e)) (f:(P.info? e).map (λi=>(i.zero,i.size,i.bytes))=QJ (QJ z,size,bytes))
    (D:z.cells.size=size) (r:0<size)
    (v:XZ) (n:Nat) (xs:List XZ) (M:a.eval s=v) (k:wr.ownsRow b e size v n xs) (E:b<=wr.heap.size)
    (cs:Array XZ) (m c:Nat) (N:a.eval x = QQ (QJ ⟨wr.heap.size,0,QY⟩) m c) (I:cs.size=m*size) (h1:∀u∈cs.toList,u.oneCell'=true)
    (q:0<m) (J:n+m<=100000000) (hb:bytes<=1000)
    (h:∀g d w',w'.ownsRow b e size (QQ (QJ ⟨g,0,QY⟩) (n+m) d) (n+m) (xs++cs.toList)->wr.grownBy w' v.ownBlock->(v.ownBlock=QJ g\/wr.heap.size<=g)->wpList P j Q rest (a.put o.dst (QQ (QJ ⟨g,0,QY⟩) (n+m) d)) w'):wpList P j Q (o::rest) a (wr.alloc (XX cs e)):=by
 obtain⟨O,hi,y,B,C⟩:=info_parts f
 refine wpList_append_lies _ p s x t L b e O z size bytes ht hi y B C D r v n xs M (k.alloc _) ⟨wr.heap.size,0,QY⟩ m c cs.toList N (by simpa using I)
  (World.news_of_block (heap_alloc_new wr _)) h1 q (by unfold maxLen;omega) (YK (Nat.mul_le_mul J hb) (by decide)) (by simp;omega) _ rfl
  (λg d w' h1 h2 G _=>h g d w' h1 (az_ h2) (G.imp id (λe=>by rw[e];simp)))
def VS (s:ByteArray):Prop:=s.size<=maxLen
def jv_ (s:ByteArray):Lit:=.string s.data.toList
theorem wy_:∀x y:ByteArray,VS x->VS y->jv_ x=jv_ y->x=y:=λx y _ _ h=>by
 injection h with h;exact ByteArray.ext (Array.toList_inj.1 h)
theorem qe_:∀x:ByteArray,VS x->WideAt.IsKeyLit (jv_ x):=λ_ _=>trivial
theorem Hz_:Keyed QW 9:=string_keyed Tryz.underlying9
theorem zr_:(Tryz.prog.info? 9).map (λi=>(i.zero,i.size,i.bytes))=QJ (QJ (QZ ⟨#[]⟩),1,16):=by kernel_rfl
theorem Lk_ (x:ByteArray):∀u∈(#[Value.string x]:Array XZ).toList,u.oneCell'=true:=by intro u a;simp at a;subst a;rfl
theorem Nd_ {X:DataW Unit} {a b:Int} (h1:X = .lit (.int .i64 a)) (h2:X = .lit (.int .i64 b)):a=b:=by have:=h1.symm.trans h2;injection this with this;injection this
theorem infoByte:(Tryz.prog.info? 5).map (λi=>(i.zero,i.size,i.bytes))=QJ (QJ (QK .u8 0),1,1):=by kernel_rfl
theorem hc_ (x:Int):∀u∈(#[Value.int .u8 x]:Array XZ).toList,u.oneCell'=true:=by intro u a;simp at a;subst a;rfl
theorem qt_ {w:QV} {B b:Nat} {e:TypeId} {a:Nat} {v:XZ} {n:Nat} {xs:List XZ} (h:w.ownsRow B e a v n xs) (f:b<=B):w.ownsRow b e a v n xs:=by
 refine⟨h.1,?_⟩;rcases h.2 with h0 | ⟨g,c,d,rfl,hb,rest⟩
 ·exact .inl h0
 ·exact .inr ⟨g,c,d,rfl,YK f hb,rest⟩
def rf_ (l:List UInt8):ByteArray:=⟨l.toArray⟩
theorem vr_ {w:QV} {b:Nat} {v:XZ} {l:List UInt8} (h:w.ownsRow b 5 1 v l.length (Lib.byteCells l)):(convert 197 9 v).run QW w = .ok (QZ (rf_ l)) w:=by
 have e:Tryz.prog.underlying 5=QJ (.int .u8):=by kernel_rfl
 have d:Tryz.prog.underlying 9=some .string:=by kernel_rfl
 rcases h.2 with⟨rfl,h0⟩ | ⟨g,c,i,rfl,_,f,_,_,_,a⟩
 ·obtain rfl:l=[]:=List.eq_nil_of_length_eq_zero h0;exact Lib.run_convert_nil_bytes w 197 9 5 0 Tryz.underlying197 e d
 ·exact run_convert_bytes_back w 197 9 5 ⟨g,0,QY⟩ c l Tryz.underlying197 e d (Lib.bytes_of_row f (by simpa using a))
def Ma_ (w:QV) (v a:XZ):Prop:=a.ownBlock=v.ownBlock\/∀g,a.ownBlock=QJ g->w.heap.size<=g
theorem Ma_.refl (w:QV) (v:XZ):Ma_ w v v:=.inl rfl
theorem ep_ {w:QV} {c e d g:Nat} {v:XZ} {n:Nat} {xs:List XZ} (h:w.ownsRow c e d v n xs) (a:v.ownBlock=QJ g):∃b,w.heap[g]?=QJ (XX b e (0,0)):=by
 rcases h.2 with⟨h0,_⟩ | ⟨j,i,b,h0,_,f,_⟩
 ·rw[h0]at a;cases a
 ·rw[h0]at a;injection a with a;subst a;exact⟨_,f⟩
theorem cj_ {w:QV} {a e b c C:Nat} {v:XZ} {n:Nat} {xs:List XZ} (h:w.ownsRow a e b v n xs) {cs:Array XZ} (f:w.heap[c]?=QJ (XX cs C (0,0))) (d:e≠C):v.ownBlock≠QJ c:=λg=>by
 obtain⟨i,h1⟩:=ep_ h g;rw[f]at h1;injection h1 with h1;injection h1 with _ h1;exact d h1.symm
theorem jh_ {w:QV} {c a e f d b:Nat} {v u:XZ} {n m:Nat} {xs q:List XZ} (h:w.ownsRow c e d v n xs) (k:w.ownsRow a f b u m q) (i:e≠f):∀g,u.ownBlock=QJ g->v.ownBlock≠QJ g:=λg o p=>by
 obtain⟨r,h1⟩:=ep_ h p;obtain⟨j,h2⟩:=ep_ k o;rw[h1]at h2;injection h2 with h2;injection h2 with _ h2;exact i h2
theorem b_ {w:QV} {c:Nat} {o:Obj} (h:w.heap[c]?=QJ o):c<w.heap.size:=by
 rcases Nat.lt_or_ge c w.heap.size with a | a
 ·exact a
 ·rw[Array.getElem?_eq_none a]at h;cases h
theorem cm_ {w:QV} {a e b:Nat} {v:XZ} {n:Nat} {xs:List XZ} (h:w.ownsRow a e b v n xs):∃A cp,v = QQ A n cp:=by
 rcases h.2 with⟨rfl,h0⟩ | ⟨g,cp,c,rfl,_⟩
 ·exact⟨QY,0,by rw[h0]⟩
 ·exact⟨_,cp,rfl⟩
theorem xd_ {w:QV} {a e b:Nat} {v:XZ} {n:Nat} {xs:List XZ} (h:w.ownsRow a e b v n xs):w.drew.ownsRow a e b v n xs:=h
theorem lu_ (k:IntKind) (x:Int):∀u∈(#[Value.int k x]:Array XZ).toList,u.oneCell'=true:=by intro u a;simp at a;subst a;rfl
def bj_ (s:ByteArray):Bool:=s.data.toList.head?==some 45
def gy_ (s:ByteArray):Bool:=s.data.toList.head?==some 45 || s.data.toList.head?==some 43
def bs_ (s:ByteArray):ByteArray:=cond (gy_ s) (s.extract 1 s.size) s
def am_:List UInt8->Nat->Option Nat->Option (Option Nat)
 | [],_,p=>QJ p
 | c::l,i,p=>cond (c==46&&p.isNone) (am_ l (i+1) (QJ i)) (cond (b0_ c.toNat) (am_ l (i+1) p) QY)
def bf_:List UInt8->List Nat
 | []=>[]
 | c::l=>bf_ l++cond (c==46) [] [c.toNat-48]
theorem li_ {l:List UInt8} {k:Nat} {c:UInt8} (h:l[k]?=QJ c):l.drop k=c::l.drop (k+1):=by obtain⟨a,rfl⟩:=List.getElem?_eq_some_iff.1 h;exact List.drop_eq_getElem_cons a
theorem Oo_ {l:List UInt8} {k:Nat} (h:l[k]?=some 46):am_ (l.drop k) k QY=am_ (l.drop (k+1)) (k+1) (QJ k):=by rw[li_ h];rfl
theorem Np_ {l:List UInt8} {k:Nat} {c:UInt8} {p:Option Nat} (h:l[k]?=QJ c) (a:b0_ c.toNat=true):am_ (l.drop k) k p=am_ (l.drop (k+1)) (k+1) p:=by
 rw[li_ h];have b:(c==46)=false:=by refine beq_eq_false_iff_ne.2 λe=>?_;rw[e]at a;cases a
 simp[am_,b,a]
theorem On_ {l:List UInt8} {k:Nat} {c:UInt8} {p:Option Nat} (h:l[k]?=QJ c) (d:b0_ c.toNat=false) (a:c≠46\/∃i,p=QJ i):am_ (l.drop k) k p=QY:=by
 rw[li_ h]
 have b:(c==46&&p.isNone)=false:=by
  rcases a with a | ⟨i,rfl⟩
  ·rw[beq_eq_false_iff_ne.2 a];rfl
  ·simp
 simp[am_,b,d]
theorem Nq_ {l:List UInt8} {k:Nat} {p:Option Nat} (h:l.length<=k):am_ (l.drop k) k p=QJ p:=by rw[List.drop_of_length_le h];rfl
def ptI:Option Nat->Int
 | none=>-1
 | some i=>i
def ku_ (n:Nat):Option Nat->Nat
 | none=>0
 | some i=>n-1-i
def cy_ (s:ByteArray):Option (Bool×List Nat×Nat):=
 match am_ (bs_ s).data.toList 0 QY with
 | none=>none
 | some p=>cond (decide ((bs_ s).size=0) || (p==some 0) || (p==some ((bs_ s).size-1))) none
     (QJ (bj_ s,bf_ (bs_ s).data.toList,ku_ (bs_ s).size p))
theorem z4_ {s:ByteArray} (h:am_ (bs_ s).data.toList 0 QY=QY):cy_ s=QY:=by unfold cy_;rw[h]
theorem jb_:(Tryz.prog.info? 3).map (λi=>(i.zero,i.size,i.bytes))=QJ (QJ (QK QU 0),1,8):=by kernel_rfl
theorem u5_ {s:ByteArray} (h:0<s.size) (h1:s[0].toNat=45):bj_ s=true/\gy_ s=true/\bs_ s=s.extract 1 s.size:=by have h2:s[0]=45:=UInt8.toNat_inj.1 h1;have a:=ja_ h;unfold bs_ gy_ bj_;rw[a,h2];exact⟨rfl,rfl,rfl⟩
theorem x6_ {s:ByteArray} (h:0<s.size) (h1:s[0].toNat=43):bj_ s=false/\gy_ s=true/\bs_ s=s.extract 1 s.size:=by have h2:s[0]=43:=UInt8.toNat_inj.1 h1;have a:=ja_ h;unfold bs_ gy_ bj_;rw[a,h2];exact⟨rfl,rfl,rfl⟩
theorem x5_ {s:ByteArray} (h:0<s.size) (h1:s[0].toNat≠45) (h2:s[0].toNat≠43):bj_ s=false/\gy_ s=false/\bs_ s=s:=by
 have a:s[0]≠45:=λe=>h1 (by rw[e];rfl);have b:s[0]≠43:=λe=>h2 (by rw[e];rfl);have f:=ja_ h;unfold bs_ gy_ bj_;rw[f];have c:(QJ s[0]==QJ (45:UInt8))=false:=by simpa using a
 have d:(QJ s[0]==QJ (43:UInt8))=false:=by simpa using b
 rw[c,d];exact⟨rfl,rfl,rfl⟩
theorem nl_ {s:ByteArray} (h:¬0<s.size):bj_ s=false/\gy_ s=false/\bs_ s=s:=by have a:s.data.toList=[]:=List.eq_nil_of_length_eq_zero (by rw[aj_];omega);unfold bs_ gy_ bj_;rw[a];exact⟨rfl,rfl,rfl⟩
theorem rb_ (s:ByteArray):(bs_ s).size<=s.size:=by
 unfold bs_
 cases gy_ s
 ·exact XJ _
 ·simp
def tg_ (s:ByteArray) (w:QV):QV:=(w.alloc (XX #[XK false,QQ QY 0 0,QK QU 0] 277)).alloc (XX #[XK (bj_ s),QQ QY 0 0,QK QU 0] 277)
def Fh_ (s:ByteArray) (w:QV) (e:Ending) (w':QV):Prop:=XU w.heap.size w w' /\
 match cy_ s with
 | none=>e = XW (YY #[.agg #[XK false,QQ none 0 0,QK QU 0],XK false])
 | some (neg,D,S)=>∃A a,e = XW (YY #[.agg #[XK neg,QQ A D.length a,QK QU (S:Int)],XK true])/\ac_ w' A D
structure N6_ (w:QV) (b:Nat) (sg:Bool) (D:List Nat) (v:XZ) (S:Nat) (wr:QV):Prop where
 below:XU w.heap.size w wr
 res:wr.heap[b]?=QJ (XX #[XK false,QQ QY 0 0,QK QU 0] 277 (0,0))
 num:wr.heap[b+1]?=QJ (XX #[XK sg,v,QK QU (S:Int)] 277 (0,0))
 row:wr.ownsRow (b+2) 3 1 v D.length (D.map λ(x:Nat)=>Value.int QU (x:Int))
 size:b+2<=wr.heap.size
theorem wn_ {w:QV} {a:Nat} {D:List Nat} {A:Option Addr} {cp:Nat} (h:w.ownsRow a 3 1 (QQ A D.length cp) D.length (D.map λ(x:Nat)=>Value.int QU (x:Int))):ac_ w A D:=by
 intro i x c;have h2:=h;rcases h.2 with⟨h0,_⟩ | ⟨g,e,f,h0,_⟩
 ·injection h0 with _ hn _;have b:=(List.getElem?_eq_some_iff.1 c).1;rw[hn]at b;exact absurd b (Nat.not_lt_zero _)
 ·have d:A=QJ ⟨g,0,QY⟩:=by injection h0
  exact⟨_,d,by have:=(h2.lt g (by rw[h0];rfl)).2;unfold Addr.add;split<;>exact this,h2.cells (g:=g) (by rw[h0];rfl) i _ (by rw[List.getElem?_map,c];rfl)⟩
theorem Ir_ {l:List UInt8}:∀{i:Nat} {p q:Option Nat},am_ l i p=QJ q->∀c∈l,c=46\/b0_ c.toNat=true:=by
 induction l with
 | nil=>intro i p q _ c a;cases a
 | cons d l b=>
  intro i p q h c a;unfold am_ at h
  cases h1:(d==46&&p.isNone) with
  | true=>
   rw[h1]at h;rcases List.mem_cons.1 a with rfl | a
   ·exact .inl (beq_iff_eq.1 (Bool.and_eq_true_iff.1 h1).1)
   ·exact b h c a
  | false=>
   rw[h1]at h
   cases h2:b0_ d.toNat with
   | true=>
    rw[h2]at h;rcases List.mem_cons.1 a with rfl | a
    ·exact .inr h2
    ·exact b h c a
   | false=>rw[h2]at h;cases h
theorem Kp_ {l:List UInt8} {k:Nat} (h:l[k]?=some 46):bf_ (l.drop k)=bf_ (l.drop (k+1)):=by rw[li_ h];simp[bf_]
theorem Gm_ {l:List UInt8} {k:Nat} {c:UInt8} (h:l[k]?=QJ c) (a:c≠46):bf_ (l.drop k)=bf_ (l.drop (k+1))++[c.toNat-48]:=by rw[li_ h];simp[bf_,beq_eq_false_iff_ne.2 a]
theorem nr_ (l:List UInt8):(bf_ l).length<=l.length:=by
 induction l with
 | nil=>simp[bf_]
 | cons c l a=>
  unfold bf_
  cases h:c==46<;>simp<;>omega
theorem jq_ {w:QV} {b C:Nat} {e f g:XZ} (a c d:XZ) (h:w.heap[b]?=QJ (XX #[e,f,g] C (0,0))):(((w.setCell ⟨b,0,QY⟩ a).setCell ⟨b,1,QY⟩ c).setCell ⟨b,2,QY⟩ d).heap[b]?=QJ (XX #[a,c,d] C (0,0)):=
 heap_setCell_same _ b 2 _ C _ (heap_setCell_same _ b 1 _ C _ (heap_setCell_same w b 0 _ C _ h))
theorem f9_ {a w:QV} {k b:Nat} (c d e:XZ) (h:XU k a w) (hb:k<=b):XU k a (((w.setCell ⟨b,0,QY⟩ c).setCell ⟨b,1,QY⟩ d).setCell ⟨b,2,QY⟩ e):=
 ((h.setCell (p:=⟨b,0,QY⟩) hb _).setCell (p:=⟨b,1,QY⟩) hb _).setCell (p:=⟨b,2,QY⟩) hb _
theorem kn_ (s:ByteArray) (hs:s.size<=4000000000000) (w:QV):Calls QW 289 #[QZ s] w (Fh_ s w):=by
 go_enter Tryz.func289,Tryz.ntmps289
 go_upto_region 2 with fail;go_cut [20] (λb9 wx=>b9 = XK (gy_ s)/\wx=(w.alloc (XX #[XK false,QQ QY 0 0,QK QU 0] 277)).alloc (XX #[XK false,QQ QY 0 0,QK QU 0] 277))
 case first=>
  by_cases h0:0<s.size
  ·by_cases h1:s[0].toNat=45
   ·have Y:=q_ (u5_ h0 h1);have e1:((s[0].toNat:Int)==45)=true:=by simp;omega
    clear h1;go_wp2_with fail;go_meet;exact⟨by rw[Y.o.2.1],rfl⟩
   ·have e1:((s[0].toNat:Int)==45)=false:=by simp;omega
    by_cases h2:s[0].toNat=43
    ·have Y:=q_ (x6_ h0 h2);have X:((s[0].toNat:Int)==43)=true:=by simp;omega
     clear h1 h2;go_wp2_with fail;go_meet;exact⟨by rw[Y.o.2.1],rfl⟩
    ·have Y:=q_ (x5_ h0 h1 h2);have X:((s[0].toNat:Int)==43)=false:=by simp;omega
     clear h1 h2;go_wp2_with fail;go_meet;exact⟨by rw[Y.o.2.1],rfl⟩
  ·have Y:=q_ (nl_ h0);go_wp2_with fail;go_meet;exact⟨by rw[Y.o.2.1],rfl⟩
 case rest=>
  obtain⟨V,rfl⟩:=hcut;have HT:=q_ (show (bs_ s).size<=4000000000000 from YK (rb_ s) hs);go_upto_if 20 with fail;go_cut [0] (λs0 wx=>s0 = QZ (bs_ s)/\wx=tg_ s w)
  case first=>
   by_cases r:gy_ s=true
   ·have h0:0<s.size:=by refine Classical.byContradiction λh=>?_;rw[(nl_ h).2.1]at r;cases r
    rw[r]at V;subst V
    have c:=q_ (show Value.bool ((s[0].toNat:Int)==45) = XK (bj_ s) from by
     by_cases h1:s[0].toNat=45
     ·rw[(u5_ h0 h1).1,h1];rfl
     ·by_cases h2:s[0].toNat=43
      ·rw[(x6_ h0 h2).1,h2];rfl
      ·rw[(x5_ h0 h1 h2).2.1]at r;cases r)
    have ht:=q_ (show bs_ s=s.extract 1 s.size from by unfold bs_;rw[r];rfl);clear r;go_wp2_with fail;go_meet;exact⟨by rw[ht.o],by unfold tg_;rw[<-c.o]⟩
   ·have r:gy_ s=false:=by simpa using r
    have ht:=q_ (show bs_ s=s from by unfold bs_;rw[r];rfl);have hb:=q_ (show bj_ s=false from by unfold gy_ at r;unfold bj_;exact (Bool.or_eq_false_iff.1 r).1);rw[r]at V;subst V;clear r;go_wp2_with fail;go_meet;exact⟨by rw[ht.o],by unfold tg_;rw[hb.o]⟩
  case rest=>
   obtain⟨h0,hw⟩:=hcut;subst h0;have HW:=q_ hw;clear hw V;have HS:=q_ (show wc.heap.size=w.heap.size+2 by rw[HW.o];simp[tg_]);have HB:=q_ (show XU w.heap.size w wc by rw[HW.o];exact ((XV w.heap.size w).alloc (XJ _) _).alloc (by simp) _);have m:=q_ (show wc.heap[w.heap.size]?=QJ (XX #[XK false,QQ QY 0 0,QK QU 0] 277 (0,0)) by rw[HW.o];unfold tg_;rw[Below.heap_alloc _ _ _ (by simp)];exact heap_alloc_new w _);have af:=q_ (show wc.heap[w.heap.size+1]?=QJ (XX #[XK (bj_ s),QQ QY 0 0,QK QU 0] 277 (0,0)) by rw[HW.o];unfold tg_;have:=heap_alloc_new (w.alloc (XX #[XK false,QQ QY 0 0,QK QU 0] 277)) (XX #[XK (bj_ s),QQ QY 0 0,QK QU 0] 277);rw[show (w.alloc (XX #[XK false,QQ QY 0 0,QK QU 0] 277)).heap.size=w.heap.size+1 by simp]at this;exact this);have f2:wc.frozen? ⟨w.heap.size,0,QY⟩=false:=Lib.frozen_of_heap m.o 0;have aa:wc.frozen? ⟨w.heap.size,1,QY⟩=false:=Lib.frozen_of_heap m.o 1;have ab:wc.frozen? ⟨w.heap.size,2,QY⟩=false:=Lib.frozen_of_heap m.o 2;have a7:wc.cell? ⟨w.heap.size,0,QY⟩=QJ (XK false):=QX m.o 0;have a8:wc.cell? ⟨w.heap.size,1,QY⟩=QJ (QQ QY 0 0):=QX m.o 1;have a9:wc.cell? ⟨w.heap.size,2,QY⟩=QJ (QK QU 0):=QX m.o 2;obtain⟨b,J⟩:=a_ w.heap.size;obtain⟨t,L⟩:=a_ (bs_ s);have b4:=HT.o;rw[L.o]at b4;rw[L.o];rw[J.o]at HS m af f2 aa ab a7 a8 a9;rw[J.o];clear hs;go_wp2_with fail;go_loop [5,6] (λs5 s6=>∃(k:Nat) (p:Option Nat),k<=t.size/\s5 = QK QU (ptI p)/\s6 = QK QU (k:Nat)/\Q_ (am_ t.data.toList 0 QY=am_ (t.data.toList.drop k) k p/\∀i,p=QJ i->i<k)) (λ_ s6=>t.size-(intOf s6).toNat)
   case atStart=>exact⟨0,none,by omega,rfl,rfl,q_ ⟨rfl,λi h=>by cases h⟩⟩
   case round=>
    obtain⟨k,p,hk,rfl,rfl,f⟩:=hrel;by_cases b1:k<t.size
    ·have G:=q_ (eg_ t k b1);obtain⟨x,hx⟩:∃x:Nat,t[k].toNat=x:=⟨_,rfl⟩;have R:=q_ hx;have b5:x<256:=by rw[<-hx];exact t[k].toNat_lt
     by_cases E:b0_ x=true
     ·have ar:48<=x/\x<=57:=by unfold b0_ at E;exact of_decide_eq_true E
      have e1:((x:Int)==46)=false:=by simp;omega
      have HD:=q_ E;have I:=q_ (show am_ t.data.toList 0 QY=am_ (t.data.toList.drop (k+1)) (k+1) p from by rw[f.o.1];exact Np_ G.o (by rw[R.o];exact HD.o));have am:=q_ (show ∀i,p=QJ i->i<k+1 from λi h=>Nat.lt_succ_of_lt (f.o.2 i h));clear E;go_wp2_with fail;refine (m4_ _ (by omega) _).mono ?_;rintro e w' ⟨rfl,rfl⟩;rw[HD.o];go_wp2_with fail;go_round
      case rel=>exact⟨k+1,p,by omega,rfl,by go_num,q_ ⟨I.o,am.o⟩⟩
      case measure=>simp[intOf];omega
     ·have E:b0_ x=false:=by simpa using E
      have HD:=q_ E;clear E;obtain⟨q,P⟩:=a_ (ptI p);rw[P.o];by_cases W:x=46/\p=none
      ·obtain⟨rfl,rfl⟩:=W;have U:q<0:=by rw[<-P.o];decide
       have X:decide (q<0)=true:=decide_eq_true U;have ad:t[k]=46:=UInt8.toNat_inj.1 R.o;have I:=q_ (show am_ t.data.toList 0 QY=am_ (t.data.toList.drop (k+1)) (k+1) (QJ k) from by rw[f.o.1];exact Oo_ (by rw[G.o,ad]));clear U ad;go_wp2_with fail;go_round
       case rel=>exact⟨k+1,QJ k,by omega,rfl,by go_num,q_ ⟨I.o,λi h=>by injection h with h;omega⟩⟩
       case measure=>simp[intOf];omega
      ·have a4:=q_ (show cy_ s=QY from z4_ (by
         rw[L.o,f.o.1];refine On_ G.o (by rw[R.o];exact HD.o) ?_
         cases p with
         | none=>exact .inl λe=>W ⟨by rw[<-R.o,e];rfl,rfl⟩
         | some i=>exact .inr ⟨i,rfl⟩))
       have HP:=q_ W;clear W;by_cases O:x=46
       ·have U:¬q<0:=by
          rw[<-P.o]
          cases p with
          | none=>exact absurd ⟨O,rfl⟩ HP.o
          | some i=>simp[ptI]
        have X:decide (q<0)=false:=decide_eq_false U;subst O;clear U;go_wp2_with fail;refine (m4_ _ (by omega) _).mono ?_;rintro e w' ⟨rfl,rfl⟩;rw[HD.o];go_wp2_with fail;have d:=jq_ (XK false) (QQ QY 0 0) (QK QU 0) m.o;have N:=q_ (f9_ (b:=b) (XK false) (QQ QY 0 0) (QK QU 0) HB.o (by rw[J.o];exact XJ b));obtain⟨B,M⟩:=a_ (((w'.setCell ⟨b,0,QY⟩ (XK false)).setCell ⟨b,1,QY⟩ (QQ QY 0 0)).setCell ⟨b,2,QY⟩ (QK QU 0));rw[M.o]at d N ⊢;have r0:B.cell? ⟨b,0,QY⟩=QJ (XK false):=QX d 0;have r1:B.cell? ⟨b,1,QY⟩=QJ (QQ QY 0 0):=QX d 1;have r2:B.cell? ⟨b,2,QY⟩=QJ (QK QU 0):=QX d 2;exact bodyPost_ret (v:=YY #[.agg #[XK false,QQ QY 0 0,QK QU 0],XK false]) (by simp[results,Tryz.results289,go_sem,r0,r1,r2]) rfl ⟨N.o,by rw[a4.o]⟩
       ·have e1:((x:Int)==46)=false:=by simp;omega
        clear O;go_wp2_with fail;refine (m4_ _ (by omega) _).mono ?_;rintro e w' ⟨rfl,rfl⟩;rw[HD.o];go_wp2_with fail;have d:=jq_ (XK false) (QQ QY 0 0) (QK QU 0) m.o;have N:=q_ (f9_ (b:=b) (XK false) (QQ QY 0 0) (QK QU 0) HB.o (by rw[J.o];exact XJ b));obtain⟨B,M⟩:=a_ (((w'.setCell ⟨b,0,QY⟩ (XK false)).setCell ⟨b,1,QY⟩ (QQ QY 0 0)).setCell ⟨b,2,QY⟩ (QK QU 0));rw[M.o]at d N ⊢;have r0:B.cell? ⟨b,0,QY⟩=QJ (XK false):=QX d 0;have r1:B.cell? ⟨b,1,QY⟩=QJ (QQ QY 0 0):=QX d 1;have r2:B.cell? ⟨b,2,QY⟩=QJ (QK QU 0):=QX d 2;exact bodyPost_ret (v:=YY #[.agg #[XK false,QQ QY 0 0,QK QU 0],XK false]) (by simp[results,Tryz.results289,go_sem,r0,r1,r2]) rfl ⟨N.o,by rw[a4.o]⟩
    ·have ai:k=t.size:=by omega
     have W:=q_ (show am_ (bs_ s).data.toList 0 QY=QJ p from by rw[L.o,f.o.1];exact Nq_ (by rw[aj_];omega));have b3:=q_ (show ∀i,p=QJ i->i<t.size from by rw[<-ai];exact f.o.2);subst ai;clear f;obtain⟨q,P⟩:=a_ (ptI p);rw[P.o];obtain⟨cB,HC⟩:=a_ (decide (t.size=0) || (p==some 0) || (p==QJ (t.size-1)))
     go_upto_region 13 with fail;go_cut [61] (λba wx=>ba = XK cB/\wx=wc)
     case first=>
      by_cases a0:t.size=0
      ·have e1:((t.size:Int)==0)=true:=beq_iff_eq.2 (by omega);have G:=q_ (show cB=true from by rw[<-HC.o,decide_eq_true a0];rfl);clear a0;go_wp2_with fail;go_meet;exact⟨by rw[G.o],rfl⟩
      ·have e1:((t.size:Int)==0)=false:=beq_eq_false_iff_ne.2 (by omega);by_cases a1:p=some 0
       ·have X:(q==0)=true:=by rw[<-P.o,a1];rfl
        have G:=q_ (show cB=true from by rw[<-HC.o,a1];simp);clear a1;go_wp2_with fail;go_meet;exact⟨by rw[G.o],rfl⟩
       ·have X:(q==0)=false:=by
          rw[<-P.o]
          cases p with
          | none=>rfl
          | some i=>
           have:i≠0:=λh=>a1 (by rw[h]);exact beq_eq_false_iff_ne.2 (by show (i:Int)≠0;omega)
        have w1:IntKind.i64.wrap ((t.size:Int)-1)=t.size-1:=IntWalk.i64_in _ (by omega)
        have G:=q_ (show (q==(t.size:Int)-1)=cB from by
         rw[<-HC.o,<-P.o,decide_eq_false a0]
         cases p with
         | none=>exact beq_eq_false_iff_ne.2 (by show (-1:Int)≠(t.size:Int)-1;omega)
         | some i=>
          have h1:(QJ i==some 0)=false:=by simpa using λh:i=0=>a1 (by rw[h])
          rw[h1];by_cases h2:i=t.size-1
          ·subst h2;simp[ptI];omega
          ·have d:(QJ i==QJ (t.size-1))=false:=by simpa using h2
           rw[d];simp[ptI];omega)
        clear a1 a0;go_wp2_with fail;go_meet;exact⟨by rw[G.o],rfl⟩
     case rest=>
      obtain⟨ah,rfl⟩:=hcut
      cases cB with
      | true=>
       subst ah;have a4:=q_ (show cy_ s=QY from by unfold cy_;rw[W.o,L.o];simp only;rw[HC.o];rfl);go_wp2_with fail;have d:=jq_ (XK false) (QQ QY 0 0) (QK QU 0) m.o;have N:=q_ (f9_ (b:=b) (XK false) (QQ QY 0 0) (QK QU 0) HB.o (by rw[J.o];exact XJ b));obtain⟨B,M⟩:=a_ (((wc.setCell ⟨b,0,QY⟩ (XK false)).setCell ⟨b,1,QY⟩ (QQ QY 0 0)).setCell ⟨b,2,QY⟩ (QK QU 0));rw[M.o]at d N ⊢;have r0:B.cell? ⟨b,0,QY⟩=QJ (XK false):=QX d 0;have r1:B.cell? ⟨b,1,QY⟩=QJ (QQ QY 0 0):=QX d 1;have r2:B.cell? ⟨b,2,QY⟩=QJ (QK QU 0):=QX d 2;exact bodyPost_ret (v:=YY #[.agg #[XK false,QQ QY 0 0,QK QU 0],XK false]) (by simp[results,Tryz.results289,go_sem,r0,r1,r2]) rfl ⟨N.o,by rw[a4.o]⟩
      | false=>
       subst ah;have I:=q_ (show cy_ s=QJ (bj_ s,bf_ t.data.toList,ku_ t.size p) from by unfold cy_;rw[W.o,L.o];simp only;rw[HC.o];rfl)
       have bg:0<t.size:=by
        rcases Nat.eq_zero_or_pos t.size with h | h
        ·have:=HC.o;rw[decide_eq_true h]at this
         cases this
        ·exact h
       have f:=q_ (Ir_ W.o);rw[L.o]at f;have w1:IntKind.i64.wrap ((t.size:Int)-1)=t.size-1:=IntWalk.i64_in _ (by omega);go_wp2_with fail;go_loopw [7] (λs7 wr=>∃(i:Nat) (v:XZ),i<=t.size/\s7 = QK QU ((i:Int)-1)/\Q_ (N6_ w b (bj_ s) (bf_ (t.data.toList.drop i)) v 0 wr)) (λs7 _=>(intOf s7+1).toNat)
       case atStart=>
        refine⟨t.size,QQ QY 0 0,XJ _,rfl,q_ ⟨HB.o,m.o,af.o,?_,by rw[HS.o];exact XJ _⟩⟩;rw[List.drop_of_length_le (by rw[aj_];exact XJ _)];exact World.ownsRow_nil wc (b+2) 3 1
       case round=>
        obtain⟨i,v,hi,rfl,c⟩:=hrel;have bi:=c.o.size;by_cases ay:i=0
        ·subst ay;have av:=q_ (show bf_ (t.data.toList.drop 0)=bf_ t.data.toList from by rw[List.drop_zero]);obtain⟨D,a2⟩:=a_ (bf_ t.data.toList);obtain⟨S,a6⟩:=a_ (ku_ t.size p);rw[av.o,a2.o]at c;rw[a2.o,a6.o]at I;have ac:=q_ (show w.heap.size<=b by rw[J.o];exact XJ b);clear f2 aa ab a7 a8 a9;go_upto_if 85 with fail;go_cut [7] (λ_ wx=>N6_ w b (bj_ s) D v S wx)
         case first=>
          cases p with
          | none=>
           have U:q = -1:=P.o.symm;subst U;have hS:=q_ (show S=0 from a6.o.symm);go_wp2_with fail;go_meet;rw[hS.o];exact c.o
          | some i=>
           have U:q=(i:Int):=P.o.symm;subst U;have bd:=b3.o i rfl;have X:decide (0<=(i:Int))=true:=decide_eq_true (by omega);have hS:=q_ (show t.size-1-i=S from a6.o);have w5:IntKind.i64.wrap ((t.size:Int)-1-i)=(S:Int):=by rw[IntWalk.i64_in _ (by omega)];have:=hS.o;omega
           have d2:wr.cell? ⟨b+1,2,QY⟩=QJ (QK QU 0):=QX c.o.num 2;have f9:wr.frozen? ⟨b+1,2,QY⟩=false:=Lib.frozen_of_heap c.o.num 2;go_wp2_with fail;go_meet;exact⟨c.o.below.setCell (p:=⟨b+1,2,QY⟩) (by show w.heap.size<=b+1;have:=ac.o;omega) _,by rw[heap_setCell_other _ _ _ _ (by show b≠b+1;omega)];exact c.o.res,heap_setCell_same wr (b+1) 2 _ 277 _ c.o.num,ownsRow_setCell_other c.o.row (a:=⟨b+1,2,QY⟩) (cj_ c.o.row c.o.num (by decide)) _,by have:=c.o.size;simp;omega⟩
         case rest=>
          obtain⟨A,cp,rfl⟩:=cm_ hcut.row;obtain⟨n,HN⟩:=a_ D.length;have z:=q_ hcut;rw[HN.o]at z;have d0:wc.cell? ⟨b+1,0,QY⟩=QJ (XK (bj_ s)):=QX z.o.num 0;have d1:wc.cell? ⟨b+1,1,QY⟩=QJ (QQ A n cp):=QX z.o.num 1;have d2:wc.cell? ⟨b+1,2,QY⟩=QJ (QK QU (S:Int)):=QX z.o.num 2;have f2:wc.frozen? ⟨b,0,QY⟩=false:=Lib.frozen_of_heap z.o.res 0;have aa:wc.frozen? ⟨b,1,QY⟩=false:=Lib.frozen_of_heap z.o.res 1;have ab:wc.frozen? ⟨b,2,QY⟩=false:=Lib.frozen_of_heap z.o.res 2;have a7:wc.cell? ⟨b,0,QY⟩=QJ (XK false):=QX z.o.res 0;have a8:wc.cell? ⟨b,1,QY⟩=QJ (QQ QY 0 0):=QX z.o.res 1;have a9:wc.cell? ⟨b,2,QY⟩=QJ (QK QU 0):=QX z.o.res 2;clear hcut;go_wp2_with fail;have d:=jq_ (XK (bj_ s)) (QQ A n cp) (QK QU (S:Int)) z.o.res;have N:=q_ (f9_ (b:=b) (XK (bj_ s)) (QQ A n cp) (QK QU (S:Int)) z.o.below ac.o);have h5:=q_ (show (((wc.setCell ⟨b,0,QY⟩ (XK (bj_ s))).setCell ⟨b,1,QY⟩ (QQ A n cp)).setCell ⟨b,2,QY⟩ (QK QU (S:Int))).ownsRow (b+2) 3 1 (QQ A n cp) D.length (D.map λ(x:Nat)=>Value.int QU (x:Int)) from by have hn:(Value.slice A n cp).ownBlock≠QJ b:=cj_ z.o.row z.o.res (by decide);exact ownsRow_setCell_other (ownsRow_setCell_other (ownsRow_setCell_other z.o.row (a:=⟨b,0,QY⟩) hn _) (a:=⟨b,1,QY⟩) hn _) (a:=⟨b,2,QY⟩) hn _);obtain⟨B,M⟩:=a_ (((wc.setCell ⟨b,0,QY⟩ (XK (bj_ s))).setCell ⟨b,1,QY⟩ (QQ A n cp)).setCell ⟨b,2,QY⟩ (QK QU (S:Int)));rw[M.o]at d N h5 ⊢;have r0:B.cell? ⟨b,0,QY⟩=QJ (XK (bj_ s)):=QX d 0;have r1:B.cell? ⟨b,1,QY⟩=QJ (QQ A n cp):=QX d 1;have r2:B.cell? ⟨b,2,QY⟩=QJ (QK QU (S:Int)):=QX d 2;refine bodyPost_ret (v:=YY #[.agg #[XK (bj_ s),QQ A n cp,QK QU (S:Int)],XK true]) (by simp[results,Tryz.results289,go_sem,r0,r1,r2]) rfl ⟨N.o,?_⟩;rw[I.o];have h6:=h5.o;rw[<-HN.o]at h6 ⊢;exact⟨A,cp,rfl,wn_ h6⟩
        ·obtain⟨k,rfl⟩:∃k,i=k+1:=⟨i-1,by omega⟩;have b0:((k+1:Nat):Int)-1=(k:Int):=by push_cast;omega
         rw[b0];have G:=q_ (eg_ t k (by omega));obtain⟨x,hx⟩:∃x:Nat,t[k].toNat=x:=⟨_,rfl⟩;have R:=q_ hx;have b5:x<256:=by rw[<-hx];exact t[k].toNat_lt
         have e1:(0:Int)<=k:=by omega
         have w2:IntKind.i64.wrap ((k:Int)-1)=k-1:=IntWalk.i64_in _ (by omega);by_cases O:x=46
         ·subst O;have E:=q_ (show bf_ (t.data.toList.drop k)=bf_ (t.data.toList.drop (k+1)) from Kp_ (by rw[G.o,UInt8.toNat_inj.1 (show t[k].toNat=(46:UInt8).toNat from R.o)]));go_wp2_with fail;go_roundw
          case rel=>exact⟨k,v,by omega,rfl,q_ (by rw[E.o];exact c.o)⟩
          case measure=>simp[intOf]
         ·have E:=q_ (show bf_ (t.data.toList.drop k)=bf_ (t.data.toList.drop (k+1))++[x-48] from by rw[<-R.o];exact Gm_ G.o (λe=>O (by rw[<-R.o,e];rfl)))
          have ar:48<=x:=by
           rcases f.o _ (YQ G.o) with e | e
           ·exact absurd (by rw[<-R.o,e];rfl) O
           ·rw[R.o]at e;unfold b0_ at e;have:=of_decide_eq_true e;omega
          have X:((x:Int)==46)=false:=beq_eq_false_iff_ne.2 (by omega);obtain⟨y,HY⟩:=a_ (x-48);have r:x-48=y:=HY.o;rw[HY.o]at E;have w3:IntKind.u8.wrap ((x:Int)-48)=(y:Int):=by rw[IntWalk.u8_in _ (by omega)];omega
          have w4:IntKind.i64.wrap (y:Int)=(y:Int):=IntWalk.i64_in _ (by omega);obtain⟨D,a2⟩:=a_ (bf_ (t.data.toList.drop (k+1)));have ae:=q_ (nr_ (t.data.toList.drop (k+1)));rw[a2.o]at c E ae;obtain⟨n,HN⟩:=a_ D.length;have C:=q_ c.o.row;obtain⟨A,cp,hv⟩:=cm_ c.o.row;subst hv;rw[HN.o]at ae C;have bh:n<=4000000000000:=by have:=ae.o;rw[List.length_drop,aj_]at this;omega
          have d1:wr.cell? ⟨b+1,1,QY⟩=QJ (QQ A n cp):=by rw[<-HN.o];exact QX c.o.num 1
          obtain⟨i0,az,b6,b7,b8⟩:=info_parts jb_;have NB:=q_ (heap_alloc_new wr (XX #[QK QU (y:Int)] 3));have ag:=q_ (show (wr.alloc (XX #[QK QU (y:Int)] 3)).heap.size=wr.heap.size+1 by simp);have au:=b_ c.o.num;have bf:k<t.size:=by omega
          clear r;go_wp2_with fail;go_region_law ((refine step_append_lies _ rfl _ _ 94 rfl (b+2) 3 i0 (QK QU 0) 1 8 Tryz.underlying94 az b6 b7 b8 rfl (by decide) (QQ A n cp) n (D.map λ(x:Nat)=>Value.int QU (x:Int)) rfl (by first | exact xd_ (C.o.alloc _) | exact (xd_ C.o).alloc _) ⟨wr.heap.size,0,QY⟩ 1 1 [QK QU (y:Int)] rfl rfl (World.news_of_block (cs:=#[QK QU (y:Int)]) (by exact NB.o)) (lu_ _ _) (by omega) (by unfold maxLen;omega) (by omega) (by show b+2<=(wr.alloc (XX #[QK QU (y:Int)] 3)).heap.size;rw[ag.o];omega) (wr.heap.size+1) (by exact ag.o) (λg4 aq w4 ak T aj _=>?_);have ap:=q_ ak;have a3:=q_ (show wr.grownBy w4 (Value.slice A n cp).ownBlock from az_ (w:=wr) (o:=XX #[QK QU (y:Int)] 3) ⟨T.os,T.tape,T.output,T.size,T.block⟩);have ao:=q_ (show (Value.slice A n cp).ownBlock=QJ g4\/g4=wr.heap.size+1 from aj);have a5:=q_ ((a3.o.block (b+1) au (λe=>cj_ C.o c.o.num (by decide) e.symm)).trans c.o.num);have f4:w4.frozen? ⟨b+1,1,QY⟩=false:=Lib.frozen_of_heap a5.o 1;have d4:w4.cell? ⟨b+1,1,QY⟩=QJ (QQ A D.length cp):=QX a5.o 1;clear ak T aj))
          all_goals
           go_wp2_with fail;go_roundw
           case rel=>
            have aw:g4≠b+1:=by
             rcases ao.o with h0 | h0
             ·exact λe=>cj_ C.o c.o.num (by decide) (by rw[h0,e])
             ·omega
            have ac:w.heap.size<=b:=by rw[J.o];exact XJ b
            have b2:(Value.slice A n cp).ownBlock≠QJ b:=cj_ C.o c.o.res (by decide);refine⟨k,QQ (QJ ⟨g4,0,QY⟩) (n+1) aq,by omega,rfl,q_ ⟨?_,?_,heap_setCell_same w4 (b+1) 1 _ 277 _ a5.o,?_,?_⟩⟩
            ·refine (c.o.below.grown a3.o (by omega) ?_).setCell (p:=⟨b+1,1,none⟩) (by show w.heap.size<=b+1;omega) _;intro j Z;rcases C.o.2 with⟨h0,_⟩ | ⟨g,bb,bc,h0,hg,_⟩
             ·rw[h0]at Z;cases Z
             ·rw[h0]at Z;injection Z with Z;have Z:g=j:=Z;omega
            ·rw[heap_setCell_other _ _ _ _ (by show b≠b+1;omega)];exact (a3.o.block b (by omega) (λe=>b2 e.symm)).trans c.o.res
            ·rw[E.o,List.length_append,List.map_append,HN.o];exact ownsRow_setCell_other ap.o (a:=⟨b+1,1,QY⟩) (λe=>aw (by injection e)) _
            ·have:=a3.o.size;simp;omega
           case measure=>simp[intOf]
def qh_ (D:List Nat) (S:Nat):Nat->Nat->Nat
 | 0,k=>k
 | f+1,k=>if k<S/\atD D k=0 then qh_ D S f (k+1) else k
def gr_ (D:List Nat) (S:Nat):Nat->Nat
 | 0=>0
 | h+1=>if S+1<h+1/\atD D h=0 then gr_ D S h else h+1
def lq_ (D:List Nat) (S:Nat):Nat:=qh_ D S S 0
def f6_ (D:List Nat) (S:Nat):Nat:=max (gr_ D S D.length) (S+1)
theorem Lb_ (D:List Nat) (S:Nat):∀f k,k+f<=S->qh_ D S f k<=S:=by
 intro f;induction f with
 | zero=>intro k h;exact h
 | succ f a=>intro k h;unfold qh_;split;exact a _ (by omega);omega
theorem Hc_ (D:List Nat) (S:Nat):∀h,gr_ D S h<=h:=by
 intro h;induction h with
 | zero=>exact XJ _
 | succ h a=>unfold gr_;split;omega;omega
structure ky_ (w:QV) (b:Nat) (neg:Bool) (A:Option Addr) (n cap S:Nat) (D:List Nat) (wr:QV):Prop where
 below:XU w.heap.size w wr
 blk:wr.heap[b]?=QJ (XX #[XK neg,QQ A n cap,QK QU (S:Int)] 277 (0,0))
 ints:ac_ wr A D
 size:b+1<=wr.heap.size
theorem ky_.drewN {w wr:QV} {b n a S:Nat} {c:Bool} {A:Option Addr} {D:List Nat} (h:ky_ w b c A n a S D wr) (m:Nat):ky_ w b c A n a S D (wr.drewN m):=
 ⟨⟨h.below.os,h.below.tape,h.below.output,h.below.size,h.below.block⟩,h.blk,h.ints,h.size⟩
def y1_ (L:List UInt8):List XZ:=L.map λc=>Value.int .u8 (c.toNat:Int)
structure dh_ (w:QV) (b:Nat) (neg:Bool) (A:Option Addr) (n cap S:Nat) (D:List Nat) (L:List UInt8) (v:XZ) (wr:QV):Prop where
 form:ky_ w b neg A n cap S D wr
 row:wr.ownsRow (b+1) 5 1 v L.length (y1_ L)
theorem dh_.drewN {w wr:QV} {b n a S:Nat} {c:Bool} {A:Option Addr} {D:List Nat} {L:List UInt8} {v:XZ} (h:dh_ w b c A n a S D L v wr) (m:Nat):dh_ w b c A n a S D L v (wr.drewN m):=
 ⟨h.form.drewN m,h.row⟩
theorem dh_.app {w wr a:QV} {b n d S:Nat} {f:Bool} {A:Option Addr} {D:List Nat} {L:List UInt8} {v i:XZ} (h:dh_ w b f A n d S D L v wr) (j:ac_ w A D) (p:w.heap.size<=b) (g:wr.grownBy a v.ownBlock) {c:UInt8} (o:a.ownsRow (b+1) 5 1 i (L.length+1) (y1_ L++[QK .u8 (c.toNat:Int)])) :
    dh_ w b f A n d S D (L++[c]) i a:=by
 have hb:XU w.heap.size w a:=h.form.below.grown g (by have:=h.form.size;omega) (λk m=>by have:=(h.row.lt k m).1;omega);refine⟨⟨hb,?_,j.under hb,YK h.form.size g.size⟩,?_⟩
 ·exact (g.block b (by have:=h.form.size;omega) (λe=>cj_ h.row h.form.blk (by decide) e.symm)).trans h.form.blk
 ·rw[List.length_append];unfold y1_;rw[List.map_append];exact o
def bq_ (D:List Nat) (S:Nat):Bool:=decide (40<f6_ D S-S) || decide (20<S-lq_ D S)
def vu_ (y:Nat):UInt8:=UInt8.ofNat (48+y)
def cp_ (D:List Nat) (hi lo:Nat):List UInt8:=(List.range (hi-lo)).map λj=>vu_ (atD D (hi-1-j))
theorem cg_ (D:List Nat) (hi lo:Nat):(cp_ D hi lo).length=hi-lo:=by unfold cp_;simp
theorem m5_ (D:List Nat) (hi:Nat):cp_ D hi hi=[]:=by unfold cp_;simp
theorem p4_ (D:List Nat) {hi j:Nat} (h:j<hi):cp_ D hi j=cp_ D hi (j+1)++[vu_ (atD D j)]:=by unfold cp_;rw[show hi-j=(hi-(j+1))+1 by omega,List.range_succ,List.map_append];simp only[List.map_cons,List.map_nil];rw[show hi-1-(hi-(j+1))=j by omega]
theorem p2_ {y:Nat} (h:y<=9):(vu_ y).toNat=48+y:=by unfold vu_;rw[UInt8.toNat_ofNat'];exact Nat.mod_eq_of_lt (by omega)
def il_ (a:Bool) (D:List Nat) (S:Nat):ByteArray:=
 ⟨(cond (a && !ga_ D) [45] []++cp_ D (f6_ D S) S++[46]++cp_ D S (lq_ D S)++cond (decide (lq_ D S=S)) [48] []:List UInt8).toArray⟩
def Mq_ (a:Bool) (D:List Nat) (S:Nat) (w:QV) (e:Ending) (w':QV):Prop:=XU w.heap.size w w' /\
 e = XW (YY #[QZ (cond (bq_ D S) ⟨#[]⟩ (il_ a D S)),QK QU (cond (bq_ D S) 2 0)])
theorem G9_ (d:Bool) (D:List Nat) (S:Nat) (hD:D.length<=4000000000000) (hS:S<=4000000000000) (h9:∀i,atD D i<=9) (A:Option Addr) (a:Nat) (w:QV) (h:ac_ w A D) :
    Calls QW 298 #[.agg #[XK d,QQ A D.length a,QK QU (S:Int)]] w (Mq_ d D S w):=by
 have HI:=q_ h;have H9:=q_ h9;clear h h9;obtain⟨n,X⟩:=a_ D.length;rw[X.o]at hD ⊢;go_enter Tryz.func298,Tryz.ntmps298
 go_wp2_with fail
 have hm:=q_ (show ky_ w w.heap.size d A n a S D (w.alloc (XX #[XK d,QQ A n a,QK QU (S:Int)] 277)) from
  ⟨(XV _ _).alloc (XJ _) _,heap_alloc_new w _,HI.o.under ((XV _ _).alloc (XJ _) _),by simp⟩)
 obtain⟨b,G⟩:=a_ w.heap.size;obtain⟨w1,ap⟩:=a_ (w.alloc (XX #[XK d,QQ A n a,QK QU (S:Int)] 277));rw[G.o,ap.o]at hm;rw[G.o,ap.o];go_loopw [4] (λs4 wr=>∃k:Nat,k<=S/\s4 = QK QU (k:Nat)/\Q_ (lq_ D S=qh_ D S (S-k) k)/\Q_ (ky_ w b d A n a S D wr)) (λs4 _=>S-(intOf s4).toNat)
 case atStart=>exact⟨0,by omega,rfl,q_ rfl,hm⟩
 case round=>
  obtain⟨k,hk,rfl,a3,hr⟩:=hrel;have c0:wr.cell? ⟨b,0,QY⟩=QJ (XK d):=QX hr.o.blk 0;have P:wr.cell? ⟨b,1,QY⟩=QJ (QQ A n a):=QX hr.o.blk 1;have c2:wr.cell? ⟨b,2,QY⟩=QJ (QK QU (S:Int)):=QX hr.o.blk 2;have s:=q_ (ic_ D A a k (by omega) wr hr.o.ints);rw[X.o]at s;obtain⟨y,J⟩:=a_ (atD D k);rw[J.o]at s;go_upto_region 2 with fail;go_cut [19] (λb8 E=>b8 = XK (decide (k<S/\y=0))/\ky_ w b d A n a S D E)
  case first=>
   by_cases R:k<S
   ·by_cases U:y=0
    ·have hb:=q_ (show Value.bool (decide (k<S/\y=0)) = XK true by rw[decide_eq_true ⟨R,U⟩]);subst U;go_wp2_with fail;refine s.o.mono ?_;rintro e w' ⟨rfl,m,rfl⟩;go_wp2_with fail;go_meet;exact⟨hb.o.symm,hr.o.drewN m⟩
    ·have hb:=q_ (show Value.bool (decide (k<S/\y=0)) = XK false by rw[decide_eq_false (λh=>U h.2)]);have e1:((y:Int)==0)=false:=beq_eq_false_iff_ne.2 (by omega);clear U;go_wp2_with fail;refine s.o.mono ?_;rintro e w' ⟨rfl,m,rfl⟩;go_wp2_with fail;go_meet;exact⟨hb.o.symm,hr.o.drewN m⟩
   ·have hb:=q_ (show Value.bool (decide (k<S/\y=0)) = XK false by rw[decide_eq_false (λh=>R h.1)]);go_wp2_with fail;go_meet;exact⟨hb.o.symm,hr.o⟩
  case rest=>
   rename QV=>w2
   obtain⟨a7,az⟩:=hcut;have HR:=q_ az;clear az c0 P c2;by_cases C:k<S/\y=0
   ·rw[decide_eq_true C]at a7;subst a7;have a4:=q_ (show lq_ D S=qh_ D S (S-(k+1)) (k+1) from by rw[a3.o,show S-k=(S-(k+1))+1 by omega];exact if_pos ⟨C.1,by rw[J.o];exact C.2⟩);go_wp2_with fail;go_roundw
    case rel=>exact⟨k+1,by omega,by go_num,a4,q_ HR.o⟩
    case measure=>simp[intOf];omega
   ·rw[decide_eq_false C]at a7;subst a7
    have ay:=q_ (show lq_ D S=k from by
     rw[a3.o]
     cases hf:S-k with
     | zero=>rfl
     | succ f=>exact if_neg (by rw[J.o];exact C))
    clear C a3 s;have P:w2.cell? ⟨b,1,QY⟩=QJ (QQ A n a):=QX HR.o.blk 1;go_wp2_with fail;go_loopw [5] (λs5 wr=>∃h:Nat,h<=n/\s5 = QK QU (h:Nat)/\Q_ (gr_ D S n=gr_ D S h)/\Q_ (ky_ w b d A n a S D wr)) (λs5 _=>(intOf s5).toNat)
    case atStart=>exact⟨n,by omega,rfl,q_ rfl,HR⟩
    case round=>
     obtain⟨h,hh,rfl,af,t⟩:=hrel;have P:wr.cell? ⟨b,1,QY⟩=QJ (QQ A n a):=QX t.o.blk 1;have c2:wr.cell? ⟨b,2,QY⟩=QJ (QK QU (S:Int)):=QX t.o.blk 2;have w1:IntKind.i64.wrap ((S:Int)+1)=S+1:=IntWalk.i64_in _ (by omega);go_upto_region 5 with fail;go_cut [38] (λb9 E=>b9 = XK (decide (S+1<h/\atD D (h-1)=0))/\E=wr)
     case first=>
      by_cases ar:S+1<h
      ·obtain⟨j,hj⟩:∃j,h=j+1:=⟨h-1,by omega⟩;have w3:IntKind.i64.wrap ((h:Int)-1)=j:=by rw[IntWalk.i64_in _ (by omega)];omega
       have aw:j<D.length:=by rw[X.o];omega
       obtain⟨ad,rfl,_,hc⟩:=t.o.ints j _ (XQ aw);have ha:atD D (h-1)=D[j]:=by rw[hj];unfold atD;rw[show j+1-1=j by omega,XQ aw];rfl
       obtain⟨y,J⟩:=a_ D[j];rw[J.o]at hc ha;have HA:=q_ ha;have e1:(0:Int)<=j:=by omega
       have e2:(j:Int)<n:=by omega
       have HJ:=q_ hj;clear ha hj;by_cases U:y=0
       ·have hb:=q_ (show Value.bool true=Value.bool (decide (S+1<h/\atD D (h-1)=0)) by rw[decide_eq_true ⟨ar,HA.o.trans U⟩]);subst U;go_wp2_with fail;go_meet;exact⟨hb.o,rfl⟩
       ·have hb:=q_ (show Value.bool (decide (S+1<h/\y=0)) = XK false by rw[decide_eq_false (λx=>U x.2)]);have e3:((y:Int)==0)=false:=beq_eq_false_iff_ne.2 (by omega);clear U;go_wp2_with fail;go_meet;exact⟨by rw[HA.o];exact hb.o.symm,rfl⟩
      ·have hb:=q_ (show Value.bool (decide (S+1<h/\atD D (h-1)=0)) = XK false by rw[decide_eq_false (λx=>ar x.1)]);go_wp2_with fail;go_meet;exact⟨hb.o.symm,rfl⟩
     case rest=>
      obtain⟨a8,rfl⟩:=hcut;by_cases C:S+1<h/\atD D (h-1)=0
      ·rw[decide_eq_true C]at a8;subst a8;have bf:1<=h:=by omega
       have a4:=q_ (show gr_ D S n=gr_ D S (h-1) from by rw[af.o];obtain⟨j,rfl⟩:∃j,h=j+1:=⟨h-1,by omega⟩;exact if_pos C);have w3:IntKind.i64.wrap ((h:Int)-1)=((h-1:Nat):Int):=by rw[IntWalk.i64_in _ (by omega)];omega
       clear C;go_wp2_with fail;go_roundw
       case rel=>exact⟨h-1,by omega,rfl,a4,q_ t.o⟩
       case measure=>simp[intOf];omega
      ·rw[decide_eq_false C]at a8;subst a8
       have au:=q_ (show gr_ D S n=h from by
        rw[af.o]
        cases h with
        | zero=>rfl
        | succ j=>exact if_neg C)
       have a9:=q_ (show f6_ D S=max h (S+1) from by unfold f6_;rw[X.o,au.o]);clear C af P;go_upto_if 44 with fail;go_cut [5] (λs5 E=>s5 = QK QU ((f6_ D S:Nat):Int)/\E=wc)
       case first=>
        by_cases bi:h<=S
        ·have hm:=q_ (show Value.int QU ((S:Int)+1) = QK QU ((f6_ D S:Nat):Int) from by rw[a9.o,show max h (S+1)=S+1 by omega];push_cast;rfl);go_wp2_with fail;go_meet;exact⟨hm.o,rfl⟩
        ·have hm:=q_ (show Value.int QU (h:Int) = QK QU ((f6_ D S:Nat):Int) from by rw[a9.o,show max h (S+1)=h by omega]);go_wp2_with fail;go_meet;exact⟨hm.o,rfl⟩
       case rest=>
        rename QV=>w5
        obtain⟨h5,rfl⟩:=hcut;obtain⟨hi,HH⟩:=a_ (f6_ D S);rw[HH.o]at h5;subst h5;have av:=q_ (show S+1<=hi/\hi<=max n (S+1) from by rw[<-HH.o,a9.o];exact⟨by omega,by omega⟩);have h1:S+1<=hi:=av.o.1;have h2:hi<=4000000000001:=by have:=av.o.2;omega
        have w6:IntKind.i64.wrap ((hi:Int)-S)=((hi-S:Nat):Int):=by rw[IntWalk.i64_in _ (by omega)];omega
        have w7:IntKind.i64.wrap ((S:Int)-k)=((S-k:Nat):Int):=by rw[IntWalk.i64_in _ (by omega)];omega
        have ho:=q_ (show bq_ D S=(decide (40<hi-S) || decide (20<S-k)) from by unfold bq_;rw[HH.o,ay.o]);obtain⟨fo,a5⟩:=a_ (bq_ D S);rw[a5.o]at ho;have c0:w5.cell? ⟨b,0,QY⟩=QJ (XK d):=QX t.o.blk 0;have P:w5.cell? ⟨b,1,QY⟩=QJ (QQ A n a):=QX t.o.blk 1;go_upto_region 9 with fail;go_cut [59] (λba E=>ba = XK fo/\E=w5)
        case first=>
         by_cases a1:40<hi-S
         ·have e1:decide ((40:Int)<((hi-S:Nat):Int))=true:=decide_eq_true (by omega);have hf:=q_ (show fo=true from by rw[ho.o,decide_eq_true a1];rfl);go_wp2_with fail;go_meet;exact⟨by rw[hf.o],rfl⟩
         ·have hf:=q_ (show (decide ((40:Int)<((hi-S:Nat):Int)) || decide ((20:Int)<((S-k:Nat):Int)))=fo from by rw[ho.o,decide_eq_decide.2 (show (40:Int)<((hi-S:Nat):Int)↔40<hi-S by omega),decide_eq_decide.2 (show (20:Int)<((S-k:Nat):Int)↔20<S-k by omega)]);go_wp2_with fail;go_meet;exact⟨by rw[hf.o],rfl⟩
        case rest=>
         obtain⟨aq,rfl⟩:=hcut
         cases fo with
         | true=>
          subst aq;go_wp2_with fail;exact bodyPost_ret (v:=YY #[QZ ⟨#[]⟩,QK QU 2]) (by simp[results,Tryz.results298,go_sem]) rfl ⟨t.o.below,by rw[a5.o];rfl⟩
         | false=>
          subst aq;have bc:hi-S<=40/\S-k<=20:=by have:=ho.o.symm;rw[Bool.or_eq_false_iff,decide_eq_false_iff_not,decide_eq_false_iff_not]at this;omega
          have c0:wc.cell? ⟨b,0,QY⟩=QJ (XK d):=QX t.o.blk 0;have P:wc.cell? ⟨b,1,QY⟩=QJ (QQ A n a):=QX t.o.blk 1;have hz:=q_ (yq_ D (by rw[X.o];exact hD) A a wc t.o.ints);rw[X.o]at hz;obtain⟨zb,HZ⟩:=a_ (ga_ D);rw[HZ.o]at hz;clear ho w6 w7 a9 au c2;go_upto_region 12 with fail;go_cut [67] (λbb E=>bb = XK (d && !zb)/\ky_ w b d A n a S D E)
          case first=>
           cases d with
           | false=>
            go_wp2_with fail;go_meet;exact⟨rfl,t.o⟩
           | true=>
            go_wp2_with fail;refine hz.o.mono ?_;rintro e w' ⟨rfl,m,rfl⟩
            go_wp2_with fail;go_meet;exact⟨rfl,t.o.drewN m⟩
          case rest=>
           rename QV=>w6
           obtain⟨Z,b0⟩:=hcut;have ae:=q_ b0;clear b0 hz c0 P;have bd:=ae.o.size;go_upto_if 67 with fail;go_cut [6] (λs6 E=>dh_ w b d A n a S D (cond (d && !zb) [45] []) s6 E)
           case first=>
            cases hcase:d && !zb with
            | true=>
             rw[hcase]at Z;subst Z;have H0:=q_ (World.ownsRow_nil w6 (b+1) 5 1);go_wp2_with (at_builtin;refine c7_ rfl _ _ 197 rfl (b+1) 5 (QK .u8 0) 1 1 Tryz.underlying197 infoByte rfl (by decide) _ _ _ rfl H0.o (by omega) #[QK .u8 45] 1 1 rfl rfl (hc_ _) (by omega) (by omega) (by decide) ?_;intro g4 a6 w4 q p B;have Y:=q_ q;have V:=q_ p;clear q p B)
             go_meet;rw[hcase];exact dh_.app (L:=[]) ⟨ae.o,H0.o⟩ HI.o (by rw[G.o];exact XJ b) V.o (c:=45) Y.o
            | false=>
             rw[hcase]at Z;subst Z;go_wp2_with fail;go_meet;rw[hcase];exact⟨ae.o,World.ownsRow_nil w6 (b+1) 5 1⟩
           case rest=>
            have am:=q_ hcut;clear hcut Z;obtain⟨L0,ab⟩:=a_ (cond (d && !zb) [(45:UInt8)] []);have bg:L0.length<=1:=by rw[<-ab.o];cases (d && !zb)<;>simp
            rw[ab.o]at am;have w8:IntKind.i64.wrap ((hi:Int)-1)=(hi:Int)-1:=IntWalk.i64_in _ (by omega);go_wp2_with fail;go_loopw [6,7] (λs6 s7 wr=>∃i:Nat,S<=i/\i<=hi/\s7 = QK QU ((i:Int)-1)/\Q_ (dh_ w b d A n a S D (L0++cp_ D hi i) s6 wr)) (λ_ s7 _=>(intOf s7+1).toNat)
            case atStart=>exact⟨hi,by omega,XJ _,rfl,q_ (by rw[m5_,List.append_nil];exact am.o)⟩
            case round=>
             obtain⟨i,b6,b7,rfl,g⟩:=hrel;have P:wr.cell? ⟨b,1,none⟩=some (QQ A n a):=QX g.o.form.blk 1;have c2:wr.cell? ⟨b,2,none⟩=some (QK QU (S:Int)):=QX g.o.form.blk 2;by_cases R:S<i
             ·obtain⟨j,rfl⟩:∃j,i=j+1:=⟨i-1,by omega⟩;have ag:((j+1:Nat):Int)-1=(j:Int):=by push_cast;omega
              rw[ag];have ah:S<=j:=by omega
              have w9:IntKind.i64.wrap ((j:Int)-1)=(j:Int)-1:=IntWalk.i64_in _ (by omega);have s:=q_ (ic_ D A a j (by omega) wr g.o.form.ints);rw[X.o]at s;have O:=q_ (p4_ D (show j<hi by omega));obtain⟨y,J⟩:=a_ (atD D j);have ak:y<=9:=by rw[<-J.o];exact H9.o j
              rw[J.o]at s O;obtain⟨c,HC⟩:=a_ (vu_ y);have N:c.toNat=48+y:=by rw[<-HC.o];exact p2_ ak
              rw[HC.o]at O;obtain⟨L,HL⟩:=a_ (L0++cp_ D hi (j+1));have b4:L.length<=50:=by rw[<-HL.o,List.length_append,cg_];omega
              rw[HL.o]at g;obtain⟨e,He⟩:=a_ c.toNat;have v1:IntKind.i64.wrap (48+(y:Int))=(e:Int):=by rw[IntWalk.i64_in _ (by omega),<-He.o,N];push_cast;rfl
              have v2:IntKind.u8.wrap (e:Int)=(e:Int):=IntWalk.u8_in _ (by rw[<-He.o,N];omega);clear N;go_wp2_with fail;refine s.o.mono ?_;rintro e' w' ⟨rfl,m,rfl⟩;have z:=q_ (g.o.drewN m);have r:=q_ z.o.row;have a2:=z.o.form.size;obtain⟨W,HW⟩:=a_ (wr.drewN m);rw[HW.o]at z r a2 ⊢;go_wp2_with (at_builtin;refine c7_ rfl _ _ 197 rfl (b+1) 5 (QK .u8 0) 1 1 Tryz.underlying197 infoByte rfl (by decide) _ _ _ rfl r.o (by omega) #[QK .u8 (e:Int)] 1 1 rfl rfl (hc_ _) (by omega) (by omega) (by decide) ?_;intro g4 a6 w4 q p B;have Y:=q_ q;have V:=q_ p;clear q p B)
              go_roundw
              case rel=>
               refine⟨j,ah,by omega,rfl,q_ ?_⟩;rw[O.o,<-List.append_assoc,HL.o];exact dh_.app z.o HI.o (by rw[G.o];exact XJ b) V.o (by rw[He.o];exact Y.o)
              case measure=>simp[intOf]
             ·have a0:i=S:=by omega
              rw[a0]at g ⊢;obtain⟨L,HL⟩:=a_ (L0++cp_ D hi S);have b4:L.length<=50:=by rw[<-HL.o,List.length_append,cg_];omega
              rw[HL.o]at g;have r:=q_ g.o.row;have a2:=g.o.form.size;have bj:IntKind.i64.wrap ((S:Int)-1)=(S:Int)-1:=IntWalk.i64_in _ (by omega);clear R a0;go_wp2_with (at_builtin;refine c7_ rfl _ _ 197 rfl (b+1) 5 (QK .u8 0) 1 1 Tryz.underlying197 infoByte rfl (by decide) _ _ _ rfl r.o (by omega) #[QK .u8 46] 1 1 rfl rfl (hc_ _) (by omega) (by omega) (by decide) ?_;intro g4 a6 w4 q p B;have aa:=q_ (dh_.app g.o HI.o (by rw[G.o];exact XJ b) p (c:=46) q);have d2:w4.cell? ⟨b,2,QY⟩=QJ (QK QU (S:Int)):=QX aa.o.form.blk 2;clear q p B)
              obtain⟨L1,ac⟩:=a_ (L++[(46:UInt8)]);have bh:L1.length<=51:=by rw[<-ac.o,List.length_append];simp;omega
              rw[ac.o]at aa;go_loopw [6,8] (λs6 s8 wr=>∃i:Nat,k<=i/\i<=S/\s8 = QK QU ((i:Int)-1)/\Q_ (dh_ w b d A n a S D (L1++cp_ D S i) s6 wr)) (λ_ s8 _=>(intOf s8+1).toNat)
              case atStart=>exact⟨S,hk,XJ _,rfl,q_ (by rw[m5_,List.append_nil];exact aa.o)⟩
              case round=>
               obtain⟨i,b6,b7,rfl,g⟩:=hrel;have P:wr.cell? ⟨b,1,none⟩=some (QQ A n a):=QX g.o.form.blk 1;have c2:wr.cell? ⟨b,2,none⟩=some (QK QU (S:Int)):=QX g.o.form.blk 2;by_cases R:k<i
               ·obtain⟨j,rfl⟩:∃j,i=j+1:=⟨i-1,by omega⟩;have ag:((j+1:Nat):Int)-1=(j:Int):=by push_cast;omega
                rw[ag];have ah:k<=j:=by omega
                have w9:IntKind.i64.wrap ((j:Int)-1)=(j:Int)-1:=IntWalk.i64_in _ (by omega);have s:=q_ (ic_ D A a j (by omega) wr g.o.form.ints);rw[X.o]at s;have O:=q_ (p4_ D (show j<S by omega));obtain⟨y,J⟩:=a_ (atD D j);have ak:y<=9:=by rw[<-J.o];exact H9.o j
                rw[J.o]at s O;obtain⟨c,HC⟩:=a_ (vu_ y);have N:c.toNat=48+y:=by rw[<-HC.o];exact p2_ ak
                rw[HC.o]at O;obtain⟨M,I⟩:=a_ (L1++cp_ D S (j+1));have b1:M.length<=100:=by rw[<-I.o,List.length_append,cg_];omega
                rw[I.o]at g;obtain⟨e,He⟩:=a_ c.toNat;have v1:IntKind.i64.wrap (48+(y:Int))=(e:Int):=by rw[IntWalk.i64_in _ (by omega),<-He.o,N];push_cast;rfl
                have v2:IntKind.u8.wrap (e:Int)=(e:Int):=IntWalk.u8_in _ (by rw[<-He.o,N];omega);clear N;go_wp2_with fail;refine s.o.mono ?_;rintro e' w' ⟨rfl,m,rfl⟩;have z:=q_ (g.o.drewN m);have r:=q_ z.o.row;have a2:=z.o.form.size;obtain⟨W,HW⟩:=a_ (wr.drewN m);rw[HW.o]at z r a2 ⊢;go_wp2_with (at_builtin;refine c7_ rfl _ _ 197 rfl (b+1) 5 (QK .u8 0) 1 1 Tryz.underlying197 infoByte rfl (by decide) _ _ _ rfl r.o (by omega) #[QK .u8 (e:Int)] 1 1 rfl rfl (hc_ _) (by omega) (by omega) (by decide) ?_;intro g4 a6 w4 q p B;have Y:=q_ q;have V:=q_ p;clear q p B)
                go_roundw
                case rel=>
                 refine⟨j,ah,by omega,rfl,q_ ?_⟩;rw[O.o,<-List.append_assoc,I.o];exact dh_.app z.o HI.o (by rw[G.o];exact XJ b) V.o (by rw[He.o];exact Y.o)
                case measure=>simp[intOf]
               ·have a0:i=k:=by omega
                rw[a0]at g ⊢;clear R a0;obtain⟨M,I⟩:=a_ (L1++cp_ D S k);have b1:M.length<=100:=by rw[<-I.o,List.length_append,cg_];omega
                rw[I.o]at g;have r:=q_ g.o.row;have a2:=g.o.form.size;clear P;go_upto_if 111 with fail;go_cut [6] (λs6 E=>dh_ w b d A n a S D (M++cond (decide (k=S)) [48] []) s6 E)
                case first=>
                 by_cases ai:k=S
                 ·have e1:((k:Int)==(S:Int))=true:=beq_iff_eq.2 (by omega);have hc:=q_ (show M++cond (decide (k=S)) [(48:UInt8)] []=M++[48] by rw[decide_eq_true ai];rfl);clear ai;go_wp2_with (at_builtin;refine c7_ rfl _ _ 197 rfl (b+1) 5 (QK .u8 0) 1 1 Tryz.underlying197 infoByte rfl (by decide) _ _ _ rfl r.o (by omega) #[QK .u8 48] 1 1 rfl rfl (hc_ _) (by omega) (by omega) (by decide) ?_;intro g4 a6 w4 q p B;have b2:=q_ (dh_.app g.o HI.o (by rw[G.o];exact XJ b) p (c:=48) q);clear q p B)
                  go_meet;rw[hc.o];exact b2.o
                 ·have e1:((k:Int)==(S:Int))=false:=beq_eq_false_iff_ne.2 (by omega);have hc:=q_ (show M++cond (decide (k=S)) [(48:UInt8)] []=M by rw[decide_eq_false ai];exact List.append_nil _);go_wp2_with fail;go_meet;rw[hc.o];exact g.o
                case rest=>
                 have ao:=q_ hcut;clear hcut r;have b5:=vr_ (l:=M++cond (decide (k=S)) [48] []) ao.o.row;have aj:=q_ (show rf_ (M++cond (decide (k=S)) [48] [])=cond (bq_ D S) ⟨#[]⟩ (il_ d D S) from by rw[a5.o,<-I.o,<-ac.o,<-HL.o,<-ab.o];unfold il_ rf_;rw[HZ.o,HH.o,ay.o];simp);obtain⟨T,b3⟩:=a_ (rf_ (M++cond (decide (k=S)) [48] []));rw[b3.o]at b5 aj;go_wp2_with fail;exact bodyPost_ret (v:=YY #[QZ T,QK QU 0]) (by simp[results,Tryz.results298,go_sem]) rfl ⟨ao.o.form.below,by rw[aj.o,a5.o];rfl⟩
theorem Cu_ {l:List UInt8} (h:∀c∈l,c=46\/b0_ c.toNat=true):∀x∈bf_ l,x<=9:=by
 induction l with
 | nil=>intro x a;cases a
 | cons c l f=>
  intro x a;unfold bf_ at a;rcases List.mem_append.1 a with a | a
  ·exact f (λd b=>h d (List.mem_cons_of_mem _ b)) x a
  ·cases hc:c==46 with
   | true=>rw[hc]at a;cases a
   | false=>
    rw[hc]at a;have a:x∈[c.toNat-48]:=a;rw[List.mem_singleton]at a;rcases h c List.mem_cons_self with e | e
    ·rw[e]at hc;cases hc
    ·unfold b0_ at e;have:=of_decide_eq_true e;omega
theorem hd_ {s:ByteArray} {a:Bool} {D:List Nat} {S:Nat} (h:cy_ s=QJ (a,D,S)):(∀i,atD D i<=9)/\D.length<=s.size/\S<=s.size:=by
 unfold cy_ at h
 cases hp:am_ (bs_ s).data.toList 0 none with
 | none=>rw[hp]at h;cases h
 | some p=>
  rw[hp]at h;simp only at h
  cases hc:(decide ((bs_ s).size=0) || p==some 0 || p==some ((bs_ s).size-1)) with
  | true=>rw[hc]at h;cases h
  | false=>
   rw[hc]at h;have h:QJ (bj_ s,bf_ (bs_ s).data.toList,ku_ (bs_ s).size p)=QJ (a,D,S):=h;injection h with h;injection h with _ h;injection h with hD hS;have b:=rb_ s;refine⟨λi=>?_,?_,?_⟩
   ·unfold atD
    cases hi:D[i]? with
    | none=>simp
    | some x=>exact Cu_ (Ir_ hp) x (by rw[hD];exact YQ hi)
   ·have:=nr_ (bs_ s).data.toList;rw[hD,aj_]at this;omega
   ·rw[<-hS]
    cases p with
    | none=>exact Nat.zero_le _
    | some i=>show (bs_ s).size-1-i<=s.size;omega
def ct_ (s:ByteArray):ByteArray×Int:=
 match cy_ s with
 | none=>(⟨#[]⟩,6)
 | some (neg,D,S)=>(cond (bq_ D S) ⟨#[]⟩ (il_ neg D S),cond (bq_ D S) 2 0)
def bl_ (s:ByteArray):Bool:=decide ((ct_ s).2=0)&&decide ((ct_ s).1=s)
def M1_ (s:ByteArray) (w:QV) (e:Ending) (w':QV):Prop:=XU w.heap.size w w'/\e = XW (YY #[QZ (ct_ s).1,QK QU (ct_ s).2])
theorem xr_ (s:ByteArray) (m:s.size<=4000000000000) (w:QV):Calls QW 257 #[QZ s] w (M1_ s w):=by
 go_enter Tryz.func257,Tryz.ntmps257
 go_wp2_with fail;refine (kn_ s m _).mono ?_;rintro e h ⟨hb,a⟩
 cases hp:cy_ s with
 | none=>
  rw[hp]at a;have a:e = XW (YY #[.agg #[XK false,QQ QY 0 0,QK QU 0],XK false]):=a;subst a;have g:=q_ (show ct_ s=(⟨#[]⟩,6) from by unfold ct_;rw[hp]);have f:=q_ (hb.alloc hb.size (XX #[XK false,QQ QY 0 0,QK QU 0] 277));clear hp hb;go_wp2_with fail;exact bodyPost_ret (v:=YY #[QZ ⟨#[]⟩,QK QU 6]) (by simp[results,Tryz.results257,go_sem]) rfl ⟨f.o,by rw[g.o]⟩
 | some r=>
  obtain⟨b,D,S⟩:=r;rw[hp]at a;obtain⟨A,c,a,hi⟩:=a;subst a;obtain⟨i,q,p⟩:=hd_ hp;have g:=q_ (show ct_ s=(cond (bq_ D S) ⟨#[]⟩ (il_ b D S),cond (bq_ D S) 2 0) from by unfold ct_;rw[hp]);have f:=q_ (hb.alloc hb.size (XX #[XK b,QQ A D.length c,QK QU (S:Int)] 277));have k:=q_ (G9_ b D S (by omega) (by omega) i A c (h.alloc (XX #[XK b,QQ A D.length c,QK QU (S:Int)] 277)) (hi.under ((XV h.heap.size h).alloc (XJ _) _)));have j:=q_ hb.size;clear hp hb i hi;go_wp2_with fail;refine k.o.mono ?_;rintro e w2 ⟨d,rfl⟩;have d:=q_ d;go_wp2_with fail;exact bodyPost_ret (v:=YY #[QZ (ct_ s).1,QK QU (ct_ s).2]) (by rw[g.o];simp[results,Tryz.results257,go_sem]) rfl ⟨f.o.trans (d.o.mono (by have:=j.o;simp;omega)),rfl⟩
theorem hh_ (s:ByteArray) (i:s.size<=4000000000000) (w:QV):Calls QW 190 #[QZ s] w (p_ (bl_ s) w):=by
 go_enter Tryz.func190,Tryz.ntmps190
 go_wp2_with fail;refine (xr_ s i _).mono ?_;rintro e j ⟨hb,rfl⟩;have f:=q_ hb;obtain⟨c,d⟩:=a_ (ct_ s).1;obtain⟨h,a⟩:=a_ (ct_ s).2;rw[d.o,a.o];have g:=q_ (show bl_ s=(decide (h=0)&&decide (c=s)) from by unfold bl_;rw[d.o,a.o]);clear hb;by_cases h2:h=0
 ·have b:=q_ (show (c.toList==s.toList)=bl_ s from by
    rw[g.o,decide_eq_true h2];by_cases h1:c=s
    ·rw[decide_eq_true h1,h1];simp
    ·rw[decide_eq_false h1,ba_ h1];rfl)
  clear a;subst h2;go_wp2_with fail;go_ret;exact⟨j_ b.o,f.o⟩
 ·have b:=q_ (show false=bl_ s from by rw[g.o,decide_eq_false h2];rfl);go_wp2_with fail;go_ret;exact⟨j_ b.o,f.o⟩
end
section
open Go Go.RowKit Go.Shelf Go.Lib
def ten:List UInt8:=[48,49,50,51,52,53,54,55,56,57]
theorem L0_ (s:ByteArray) (w:QV) (b:s.size<=9223372036854775807) :
    Calls QW 324 #[QZ s,QZ ⟨#[48,49,50,51,52,53,54,55,56,57]⟩] w λe w'=>e = XW (QZ ⟨(Lib.trimS s.data.toList ten).toArray⟩)/\XU w.heap.size w w':=by
 have a:=Any.strings_Trim_laid Tryz.lays160 (by kernel_rfl) s ⟨#[48,49,50,51,52,53,54,55,56,57]⟩ w b (by decide) (ascii_of_all (by decide));exact a
theorem Ez_ (s:ByteArray) (w:QV) (b:s.size<=9223372036854775807) :
    Calls QW 326 #[QZ s,QZ ⟨#[48]⟩] w λe w'=>e = XW (QZ ⟨(Lib.trimRightS s.data.toList [48]).toArray⟩)/\XU w.heap.size w w':=by
 have a:=Any.strings_TrimRight_laid Tryz.lays162 (by kernel_rfl) s ⟨#[48]⟩ w b (by decide) (ascii_of_all (by decide));exact a
theorem Ey_ (s:ByteArray) (w:QV) :
    Calls QW 327 #[QZ s,QZ ⟨#[48]⟩] w λe w'=>e = XW (QZ ⟨(Lib.trimLeftS s.data.toList [48]).toArray⟩)/\XU w.heap.size w w':=by
 have a:=Any.strings_TrimLeft_laid Tryz.lays161 (by kernel_rfl) s ⟨#[48]⟩ w (by decide) (ascii_of_all (by decide));exact a
def Dr_ (s:ByteArray):Bool:=!s.toList.isEmpty&&((⟨(Lib.trimS s.data.toList ten).toArray⟩:ByteArray)).toList.isEmpty
theorem nw_ (s:ByteArray) (w:QV) (g:s.size<=9223372036854775807):Calls QW 296 #[QZ s] w (p_ (Dr_ s) w):=by
 have ht:=L0_ s w g;obtain⟨r,a⟩:=a_ (⟨(Lib.trimS s.data.toList ten).toArray⟩:ByteArray);have b:=q_ (show Dr_ s=(!s.toList.isEmpty&&r.toList.isEmpty) from by unfold Dr_;rw[a.o]);rw[a.o]at ht;have c:=q_ ht;clear ht;go_enter Tryz.func296,Tryz.ntmps296
 by_cases h0:s.toList=[]
 ·have f:=q_ (show false=Dr_ s from by rw[b.o,h0];rfl);go_wp2_with fail;go_ret;exact⟨j_ f.o,XV _ _⟩
 ·go_wp2_with (go_at_call 324;refine c.o.mono ?_;rintro e w' ⟨rfl,d⟩)
  go_ret;exact⟨j_ b.o.symm,d⟩
theorem qx_ (s p:ByteArray) (w:QV):Calls QW 294 #[QZ s,QZ p] w λe w'=>e = XW (XK (Lib.hasPrefix s.data.toList p.data.toList))/\w'=w:=
 Any.strings_HasPrefix Tryz.lays99 s p w
theorem Bb_ (s p:ByteArray) (m:Int) (w:QV) (b:s.size<4294967281) (a:w.cell? ⟨Tryz.lays145_ren.g 1,0,QY⟩=QJ (QK QU m)) :
    Calls QW 295 #[QZ s,QZ p] w λe w'=>e = XW (YY #[QZ ⟨(Lib.cut s.data.toList p.data.toList).1.toArray⟩,QZ ⟨(Lib.cut s.data.toList p.data.toList).2.1.toArray⟩,XK (Lib.cut s.data.toList p.data.toList).2.2])/\∃n,w'=w.drewN n:=
 Any.strings_Cut Tryz.lays145 s p m w b a
theorem Nb_:Builder.Extra QW Tryz.lays105_ren where
 sizeBuilder:=by kernel_rfl
 liesBuilder:=by kernel_rfl
 t5:=by kernel_rfl
 a5:=λ_=>by kernel_rfl
 z5:=λ_=>by kernel_rfl
 v5:=λ_=>by kernel_rfl
 infoByte:=by kernel_rfl
 cellsByte:=by kernel_rfl
 sizeByte:=by kernel_rfl
 neB5:=by decide
theorem q5_ (s:ByteArray) (c:Nat) (w:QV) (b:c<=9223372036854775807) (a:s.size*c<=140737488355328) :
    Calls QW 325 #[QZ s,QK QU (c:Int)] w λe w'=>e = XW (QZ ⟨(Lib.repeatL s.data.toList c).toArray⟩)/\XU w.heap.size w w':=
 Any.strings_Repeat Tryz.lays105 Nb_ s c w b a
end
section
open Go Go.RowKit
def km_ (d:List UInt8) (a:Nat):List UInt8:=if d.length<=a then List.replicate (a+1-d.length) 48++d else d
def e0_ (d:List UInt8) (a:Nat):List UInt8:=Lib.trimLeftS ((km_ d a).take ((km_ d a).length-a)) [48]
def hw_ (d:List UInt8) (a:Nat):List UInt8:=Lib.trimRightS ((km_ d a).drop ((km_ d a).length-a)) [48]
def db_ (b:Bool) (d:List UInt8) (a:Nat):List UInt8×Int:=
 if 40<(e0_ d a).length\/20<(hw_ d a).length then ([],2)
 else if e0_ d a=[]/\hw_ d a=[] then ([48,46,48],0)
 else ((if b=true then [45] else [])++(if e0_ d a=[] then [48] else e0_ d a)++[46]++(if hw_ d a=[] then [48] else hw_ d a),0)
def e6_ (c:UInt8):Nat:=c.toNat-48
def bm_ (c:UInt8):Bool:=b0_ c.toNat
theorem df_ {c:UInt8}:bm_ c=true↔48<=c.toNat/\c.toNat<=57:=by unfold bm_ b0_;exact decide_eq_true_iff
theorem vv_ {c:UInt8} (h:bm_ c=true):vu_ (e6_ c)=c:=by
 have:=df_.1 h;unfold vu_ e6_;apply UInt8.toNat_inj.1;rw[UInt8.toNat_ofNat'];have:48+(c.toNat-48)=c.toNat:=by omega
 rw[this];exact Nat.mod_eq_of_lt (by omega)
theorem no_ {c:UInt8} (h:bm_ c=true):e6_ c=0↔c=48:=by
 have:=df_.1 h;unfold e6_;constructor
 ·intro e;exact UInt8.toNat_inj.1 (by show c.toNat=48;omega)
 ·intro e;subst e;rfl
theorem u8_ (c:UInt8):ten.contains c=bm_ c:=by
 have h:∀n:Fin 256,ten.contains (UInt8.ofNat n.val)=b0_ n.val:=by decide +kernel
 have h2:=h ⟨c.toNat,c.toNat_lt⟩;have e:UInt8.ofNat c.toNat=c:=UInt8.ofNat_toNat;rw[show (⟨c.toNat,c.toNat_lt⟩:Fin 256).val=c.toNat from rfl,e]at h2;exact h2
def e2_ (l:List UInt8):Bool:=!l.isEmpty&&l.all bm_
theorem cv_ {a : Type} (p:a -> Bool) (l:List a):l.dropWhile p=[]↔l.all p=true:=by
 induction l with
 | nil=>simp
 | cons c l b=>
  rw[List.dropWhile_cons]
  cases h:p c
  ·simp[h]
  ·simp[h,b]
theorem E0_ (l cs:List UInt8):Lib.trimS l cs=[]↔l.all (cs.contains ·)=true:=by
 unfold Lib.trimS Lib.trimLeftS Lib.trimRightS;rw[cv_,List.all_reverse];constructor
 ·intro h
  have h2:l.reverse.dropWhile (cs.contains ·)=[]:=by
   cases hd:l.reverse.dropWhile (cs.contains ·) with
   | nil=>rfl
   | cons c r=>
    have:=List.head_dropWhile_not (cs.contains ·) (l:=l.reverse) (by rw[hd];simp);rw[hd]at h;have a:cs.contains c=true:=by simp only[List.all_cons,YJ]at h;exact h.1
    simp only[hd,List.head_cons]at this;rw[a]at this;cases this
  have:=(cv_ _ _).1 h2;rwa [List.all_reverse]at this
 ·intro h;have:l.reverse.dropWhile (cs.contains ·)=[]:=(cv_ _ _).2 (by rw[List.all_reverse];exact h);rw[this];rfl
theorem Ew_ (l:List UInt8):(⟨l.toArray⟩:ByteArray).data.toList=l:=rfl
theorem hv_ (s:ByteArray):s.toList.isEmpty=s.data.toList.isEmpty:=by rw[show s.toList=s.data.toList from Lib.toList_data s]
theorem Bo_ (s:ByteArray):Dr_ s=e2_ s.data.toList:=by
 unfold Dr_ e2_;rw[hv_,hv_,Ew_];congr 1
 have h:=E0_ s.data.toList ten;have e:(s.data.toList.all (ten.contains ·))=s.data.toList.all bm_:=by congr 1;funext c;exact u8_ c
 rw[e]at h
 cases hb:s.data.toList.all bm_
 ·rw[hb]at h
  cases ht:Lib.trimS s.data.toList ten
  ·exact absurd (h.1 ht) (by simp)
  ·rfl
 ·rw[hb]at h;rw[h.2 rfl];rfl
theorem Hj_ {l:List UInt8} (h:46∉l):Lib.index l [46] = -1:=by
 induction l with
 | nil=>rfl
 | cons c l d=>
  unfold Lib.index;have a:(46:UInt8)≠c:=λe=>h (by rw[e];exact List.mem_cons_self);have b:[46].isPrefixOf (c::l)=false:=by simp[List.isPrefixOf,a]
  rw[b,d (λe=>h (List.mem_cons_of_mem _ e))];rfl
theorem Dc_ {a b:List UInt8} (h:46∉a):Lib.index (a++46::b) [46]=a.length:=by
 induction a with
 | nil=>show Lib.index (46::b) [46]=_;unfold Lib.index;simp[List.isPrefixOf]
 | cons c a g=>
  show Lib.index (c::(a++46::b)) [46]=_;unfold Lib.index;have d:(46:UInt8)≠c:=λe=>h (by rw[e];exact List.mem_cons_self);have f:[46].isPrefixOf (c::(a++46::b))=false:=by simp[List.isPrefixOf,d]
  rw[f,g (λe=>h (List.mem_cons_of_mem _ e))];have:((a.length:Int) == -1)=false:=by rw[beq_eq_false_iff_ne];omega
  rw[this];simp
theorem Gg_ {l:List UInt8} (h:46∉l):Lib.cut l [46]=(l,[],false):=by unfold Lib.cut;rw[Hj_ h];rfl
theorem t9_ {a b:List UInt8} (h:46∉a):Lib.cut (a++46::b) [46]=(a,b,true):=by unfold Lib.cut;rw[Dc_ h,if_pos (by omega)];simp
theorem ti_ (l:List UInt8):46∉l\/∃a b,l=a++46::b/\46∉a:=by
 induction l with
 | nil=>exact .inl (by simp)
 | cons c l g=>
  by_cases d:c=46
  ·exact .inr ⟨[],l,by rw[d];rfl,by simp⟩
  ·rcases g with h | ⟨a,b,h,f⟩
   ·exact .inl (λe=>by rcases List.mem_cons.1 e with e | e;exact d e.symm;exact h e)
   ·exact .inr ⟨c::a,b,by rw[h];rfl,λe=>by rcases List.mem_cons.1 e with e | e;exact d e.symm;exact f e⟩
theorem xi_ (l:List UInt8):∀(i j:Nat),am_ l i (QJ j)=cond (l.all bm_) (QJ (QJ j)) QY:=by
 induction l with
 | nil=>intro i j;rfl
 | cons c l a=>
  intro i j;unfold am_;rw[show (c==46&&(QJ j).isNone)=false by simp];simp only[a];show cond false _ (cond (bm_ c) _ _)=_;rw[List.all_cons]
  cases bm_ c<;>rfl
theorem D5_ (l:List UInt8) (h:46∉l):∀(i:Nat),am_ l i QY=cond (l.all bm_) (QJ QY) QY:=by
 induction l with
 | nil=>intro i;rfl
 | cons c l b=>
  intro i;unfold am_;have a:(c==46)=false:=beq_eq_false_iff_ne.2 (λe=>h (by rw[e];exact List.mem_cons_self));rw[a,b (λe=>h (List.mem_cons_of_mem _ e))];show cond (bm_ c) _ _=_;rw[List.all_cons]
  cases bm_ c<;>rfl
theorem qw_ (a b:List UInt8) (h:46∉a):∀(i:Nat),am_ (a++46::b) i QY=cond (a.all bm_&&b.all bm_) (QJ (QJ (i+a.length))) QY:=by
 induction a with
 | nil=>
  intro i;show am_ (46::b) i QY=_;unfold am_;rw[show ((46:UInt8)==46&&(QY:Option Nat).isNone)=true by rfl];rw[xi_];rfl
 | cons c a f=>
  intro i;show am_ (c::(a++46::b)) i QY=_;unfold am_;have d:(c==46)=false:=beq_eq_false_iff_ne.2 (λe=>h (by rw[e];exact List.mem_cons_self));rw[d,f (λe=>h (List.mem_cons_of_mem _ e))];show cond (bm_ c) _ _=_;rw[List.all_cons,show i+1+a.length=i+(c::a).length by simp;omega]
  cases bm_ c<;>rfl
theorem uc_ {l:List UInt8} (h:46∉l):bf_ l=(l.map e6_).reverse:=by
 induction l with
 | nil=>rfl
 | cons c l b=>
  unfold bf_;have a:(c==46)=false:=beq_eq_false_iff_ne.2 (λe=>h (by rw[e];exact List.mem_cons_self));rw[a,b (λe=>h (List.mem_cons_of_mem _ e))];simp[e6_]
theorem Gl_ (a b:List UInt8):bf_ (a++b)=bf_ b++bf_ a:=by
 induction a with
 | nil=>simp[bf_]
 | cons c a d=>simp[bf_,d]
theorem Do_ {l:List UInt8} (h:l.all bm_=true):46∉l:=λe=>by
 have:=List.all_eq_true.1 h _ e
 cases this
theorem vw_ {a b:List UInt8} (c:a.all bm_=true) (hb:b.all bm_=true):bf_ (a++46::b)=((a++b).map e6_).reverse:=by rw[Gl_,uc_ (Do_ c)];show (bf_ b++[])++_=_;rw[uc_ (Do_ hb)];simp
def br_ (d:List UInt8):List Nat:=(d.map e6_).reverse
theorem f8_ (d:List UInt8):(br_ d).length=d.length:=by simp[br_]
theorem op_ (d:List UInt8) {i:Nat} (h:i<d.length):atD (br_ d) i=e6_ (d[d.length-1-i]'(by omega)):=by unfold atD br_;rw[List.getElem?_reverse (by simpa using h)];simp only[List.length_map,List.getElem?_map];rw[XQ (by omega)];rfl
theorem Oc_ (a b:List UInt8) {i:Nat} (h:i<a.length):atD (br_ (a++b)) (b.length+i)=e6_ (a[a.length-1-i]'(by omega)):=by
 rw[op_ _ (by simp;omega)];congr 1
 rw[List.getElem_append_left (by simp;omega)];congr 1
 simp;omega
theorem Od_ (a b:List UInt8) {i:Nat} (h:i<b.length):atD (br_ (a++b)) i=e6_ (b[b.length-1-i]'(by omega)):=by
 rw[op_ _ (by simp;omega)];congr 1
 rw[List.getElem_append_right (by simp;omega)];congr 1
 simp;omega
def bc_ (c:UInt8):Bool:=[48].contains c
theorem fb_ {c:UInt8}:bc_ c=true↔c=48:=by unfold bc_;simp
theorem Hd_ (D:List Nat) (S:Nat):∀a:List UInt8,a.all bm_=true->(∀(i:Nat) (h:i<a.length),atD D (S+i)=e6_ (a[a.length-1-i]'(by omega))) ->
    max (gr_ D S (S+a.length)) (S+1)=S+max 1 (a.dropWhile bc_).length:=by
 intro a;induction a with
 | nil=>intro _ _;have:=Hc_ D S (S+0);simp at this ⊢;omega
 | cons c a g=>
  intro d f;rw[List.all_cons,YJ]at d;have h0:=f a.length (by simp);have h0:atD D (S+a.length)=e6_ c:=by rw[h0];simp
  rw[show S+(c::a).length=(S+a.length)+1 by simp;omega];unfold gr_;rw[h0,List.dropWhile_cons];have hz:=no_ d.1;by_cases b:c=48
  ·rw[if_pos (fb_.2 b)]
   cases a with
   | nil=>
    rw[if_neg (by simp)];simp
   | cons e a=>
    rw[if_pos ⟨by simp,hz.2 b⟩];refine g d.2 λi h=>?_;rw[f i (by simp at h ⊢;omega)];congr 1
    rw[List.getElem_cons];rw[dif_neg (by simp at h ⊢;omega)];congr 1
    simp at h ⊢;omega
  ·rw[if_neg (λe=>b (hz.1 e.2)),if_neg (λe=>b (fb_.1 e))];simp;omega
theorem Lc_ (D:List Nat) (S:Nat):∀(r:List UInt8) (k:Nat),r.all bm_=true->k+r.length=S->(∀(i:Nat) (h:i<r.length),atD D (k+i)=e6_ r[i]) ->
    qh_ D S r.length k=S-(r.dropWhile bc_).length:=by
 intro r;induction r with
 | nil=>intro k _ d _;simp[qh_]at d ⊢;omega
 | cons c r g=>
  intro k b d f;rw[List.all_cons,YJ]at b;have h0:atD D k=e6_ c:=f 0 (by simp);have hz:=no_ b.1;show qh_ D S (r.length+1) k=_;unfold qh_;rw[h0,List.dropWhile_cons];simp only[List.length_cons]at d;by_cases a:c=48
  ·rw[if_pos (fb_.2 a),if_pos ⟨by omega,hz.2 a⟩];refine g (k+1) b.2 (by omega) λi h=>?_;have:=f (i+1) (by simp;omega);rw[show k+(i+1)=k+1+i by omega]at this;rw[this];rfl
  ·rw[if_neg (λe=>a (hz.1 e.2)),if_neg (λe=>a (fb_.1 e))];simp;omega
theorem vx_ (D:List Nat) (lo:Nat):∀a:List UInt8,a.all bm_=true->(∀(i:Nat) (h:i<a.length),atD D (lo+i)=e6_ (a[a.length-1-i]'(by omega)))->cp_ D (lo+a.length) lo=a:=by
 intro a c b;unfold cp_;rw[show lo+a.length-lo=a.length by omega];refine List.ext_getElem (by simp) λi h1 h2=>?_;simp only[List.getElem_map,List.getElem_range];rw[show lo+a.length-1-i=lo+(a.length-1-i) by omega,b _ (by omega)];have e:a[a.length-1-(a.length-1-i)]'(by omega)=a[i]:=by congr 1;omega
 rw[e];exact vv_ (List.all_eq_true.1 c _ (List.getElem_mem h2))
theorem f4_ (p:UInt8->Bool) (a:List UInt8):a.dropWhile p=a.drop (a.length-(a.dropWhile p).length):=by
 induction a with
 | nil=>rfl
 | cons c a b=>
  rw[List.dropWhile_cons];by_cases h:p c=true
  ·rw[if_pos h];have:(a.dropWhile p).length<=a.length:=by rw[b];simp
   rw[show (c::a).length-(a.dropWhile p).length=(a.length-(a.dropWhile p).length)+1 by simp;omega];exact b
  ·rw[if_neg h];simp
theorem Fp_ {a:List UInt8} (b:a.all bm_=true):a.all bc_=(a.map e6_).all (· == 0):=by
 induction a with
 | nil=>rfl
 | cons c a d=>
  rw[List.all_cons,YJ]at b;rw[List.map_cons,List.all_cons,List.all_cons,d b.2];congr 1
  have hz:=no_ b.1;rw[Bool.eq_iff_iff,fb_,beq_iff_eq];exact hz.symm
theorem sm_ (g:Bool) (a b:List UInt8) (y:e2_ a=true) (hb:b.all bm_=true) :
    ((⟨(db_ g (a++b) b.length).1.toArray⟩:ByteArray),(db_ g (a++b) b.length).2)=(cond (bq_ (br_ (a++b)) b.length) ⟨#[]⟩ (il_ g (br_ (a++b)) b.length),cond (bq_ (br_ (a++b)) b.length) 2 0):=by
 obtain⟨t,j⟩:a≠[]/\a.all bm_=true:=by unfold e2_ at y;rw[YJ]at y;exact⟨by rintro rfl;simp at y,y.2⟩
 have O:0<a.length:=List.length_pos_iff.2 t;have x:km_ (a++b) b.length=a++b:=by unfold km_;rw[if_neg (by simp;omega)]
 have q:(a++b).length-b.length=a.length:=by simp
 have T:e0_ (a++b) b.length=a.dropWhile bc_:=by unfold e0_;rw[x,q];simp only[List.take_left'];rfl
 have R:hw_ (a++b) b.length=(b.reverse.dropWhile bc_).reverse:=by unfold hw_;rw[x,q];simp only[List.drop_left'];rfl
 have G:∀(i:Nat) (h:i<a.length),atD (br_ (a++b)) (b.length+i)=e6_ (a[a.length-1-i]'(by omega)):=λi h=>Oc_ a b h;have I:∀(i:Nat) (h:i<b.length),atD (br_ (a++b)) i=e6_ (b[b.length-1-i]'(by omega)):=λi h=>Od_ a b h;have k:f6_ (br_ (a++b)) b.length=b.length+max 1 (a.dropWhile bc_).length:=by unfold f6_;rw[f8_,show (a++b).length=b.length+a.length by simp;omega];exact Hd_ _ _ a j G
 have r:lq_ (br_ (a++b)) b.length=b.length-(b.reverse.dropWhile bc_).length:=by
  unfold lq_
  have:=Lc_ (br_ (a++b)) b.length b.reverse 0 (by rw[List.all_reverse];exact hb) (by simp) (λi h=>by
   rw[Nat.zero_add,I i (by simpa using h)];congr 1
   rw[List.getElem_reverse])
  simpa using this
 have V:(b.reverse.dropWhile bc_).length<=b.length:=by rw[f4_];simp
 have U:(a.dropWhile bc_).length<=a.length:=by rw[f4_];simp
 have E:bq_ (br_ (a++b)) b.length=decide (40<(a.dropWhile bc_).length\/20<(b.reverse.dropWhile bc_).length):=by unfold bq_;rw[k,r,Bool.eq_iff_iff,Bool.or_eq_true,decide_eq_true_iff,decide_eq_true_iff,decide_eq_true_iff];omega
 have z:ga_ (br_ (a++b))=(decide (a.dropWhile bc_=[])&&decide (b.reverse.dropWhile bc_=[])):=by unfold ga_ br_;rw[List.all_reverse,<-Fp_ (by rw[List.all_append,j,hb];rfl),List.all_append,Bool.eq_iff_iff,YJ,YJ,decide_eq_true_iff,decide_eq_true_iff,cv_,cv_,List.all_reverse]
 have o:cp_ (br_ (a++b)) (b.length+max 1 (a.dropWhile bc_).length) b.length=if a.dropWhile bc_=[] then [48] else a.dropWhile bc_:=by
  have key:∀c:List UInt8,(∃e,a=e++c)->cp_ (br_ (a++b)) (b.length+c.length) b.length=c:=λc D=>by
   obtain⟨e,m⟩:=D;refine vx_ _ _ c ?_ λi h=>?_
   ·rw[m,List.all_append,YJ]at j;exact j.2
   ·rw[G i (by rw[m];simp;omega)];congr 1
    subst m;rw[List.getElem_append_right (by simp;omega)];congr 1
    simp;omega
  by_cases s:a.dropWhile bc_=[]
  ·rw[if_pos s,s];have J:=(cv_ _ _).1 s;obtain⟨e,c,m⟩:∃e c,a=e++[c]:=⟨a.dropLast,a.getLast t,(List.dropLast_concat_getLast t).symm⟩;have D:c=48:=fb_.1 (List.all_eq_true.1 J c (by rw[m];simp));have:=key [c] ⟨e,m⟩;rw[D]at this;exact this
  ·rw[if_neg s];have S:=List.length_pos_iff.2 s;rw[show max 1 (a.dropWhile bc_).length=(a.dropWhile bc_).length by omega];exact key _ ⟨a.takeWhile bc_,List.takeWhile_append_dropWhile.symm⟩
 have p:cp_ (br_ (a++b)) b.length (b.length-(b.reverse.dropWhile bc_).length)=(b.reverse.dropWhile bc_).reverse:=by
  obtain⟨c,e,B,C⟩:∃c e,b=c++e/\c=(b.reverse.dropWhile bc_).reverse:=⟨(b.reverse.dropWhile bc_).reverse,(b.reverse.takeWhile bc_).reverse,by rw[<-List.reverse_append,List.takeWhile_append_dropWhile,List.reverse_reverse],rfl⟩;have M:(b.reverse.dropWhile bc_).length=c.length:=by rw[C];simp
  rw[<-C,M];have P:b.length=c.length+e.length:=by rw[B];simp
  have:=vx_ (br_ (a++b)) (b.length-c.length) c (by rw[B,List.all_append,YJ]at hb;exact hb.1) (λi h=>by
   rw[I _ (by omega)];congr 1
   have:b[b.length-1-(b.length-c.length+i)]'(by omega)=(c++e)[b.length-1-(b.length-c.length+i)]'(by simp;omega):=by congr 1
   rw[this,List.getElem_append_left (by omega)];congr 1
   omega)
  rwa [show b.length-c.length+c.length=b.length by omega]at this
 rw[E];unfold db_;rw[T,R];simp only[List.length_reverse,List.reverse_eq_nil_iff];by_cases h1:40<(a.dropWhile bc_).length\/20<(b.reverse.dropWhile bc_).length
 ·rw[if_pos h1,decide_eq_true h1];rfl
 ·rw[if_neg h1,decide_eq_false h1];unfold il_;rw[z,k,r,o,p]
  have N:decide (b.length-(b.reverse.dropWhile bc_).length=b.length)=decide (b.reverse.dropWhile bc_=[]):=by
   rw[decide_eq_decide];constructor
   ·intro h;by_cases L:b.length=0
    ·have:b=[]:=List.eq_nil_of_length_eq_zero L;subst this;rfl
    ·exact List.eq_nil_of_length_eq_zero (by omega)
   ·intro h;rw[h];rfl
  rw[N];by_cases d:a.dropWhile bc_=[]<;>by_cases f:b.reverse.dropWhile bc_=[]
  ·rw[if_pos ⟨d,f⟩];simp[d,f]
  ·rw[if_neg (λh=>f h.2)]
   cases g<;>simp[d,f]
  ·rw[if_neg (λh=>d h.1)]
   cases g<;>simp[d,f]
  ·rw[if_neg (λh=>d h.1)]
   cases g<;>simp[d,f]
def jz_ (s:ByteArray):List UInt8×Int:=
 let c:=Lib.cut (bs_ s).data.toList [46]
 if e2_ c.1=true/\(c.2.2=true->e2_ c.2.1=true) then db_ (bj_ s) (c.1++c.2.1) c.2.1.length else ([],6)
theorem s4_ (s:ByteArray):((⟨(jz_ s).1.toArray⟩:ByteArray),(jz_ s).2)=ct_ s:=by
 unfold jz_ ct_ cy_;have p:=aj_ (bs_ s);generalize hl:(bs_ s).data.toList=l at p;rw[<-p];simp only;rcases ti_ l with h | ⟨a,b,h,m⟩
 ·rw[Gg_ h,D5_ l h]
  cases c:l.all bm_
  ·rw[if_neg (by intro e;have:=e.1;unfold e2_ at this;rw[c]at this;simp at this)];rfl
  ·simp only[cond_true];by_cases h0:l=[]
   ·subst h0;rfl
   ·have q:e2_ l=true:=by unfold e2_;rw[c];cases l<;>simp_all
    rw[if_pos ⟨q,λe=>by cases e⟩];have t:=List.length_pos_iff.2 h0;rw[show (decide (l.length=0) || (none:Option Nat)==some 0 || (none:Option Nat)==some (l.length-1))=false by rw[decide_eq_false (by omega)];rfl];have:=sm_ (bj_ s) l [] q rfl;rw[uc_ (Do_ c)];simp only[List.append_nil,List.length_nil]at this ⊢;exact this
 ·rw[h,t9_ m,qw_ a b m];by_cases c:(a.all bm_&&b.all bm_)=true
  ·obtain⟨k,f⟩:=Bool.and_eq_true_iff.1 c;rw[k,f];simp only[Bool.and_self,cond_true,Nat.zero_add];have g:(decide ((a++46::b).length=0) || (QJ a.length==some 0) || (QJ a.length==QJ ((a++46::b).length-1)))=(decide (a=[]) || decide (b=[])):=by rw[Bool.eq_iff_iff];simp only[Bool.or_eq_true,decide_eq_true_iff,List.length_append,List.length_cons,beq_iff_eq,Option.some.injEq,<-List.length_eq_zero_iff];omega
   rw[g];by_cases i:a=[]
   ·rw[if_neg (by rintro⟨e,_⟩;subst i;cases e)];rw[decide_eq_true i];rfl
   ·by_cases j:b=[]
    ·rw[if_neg (by rintro⟨_,e⟩;subst j;exact absurd (e trivial) (by decide))];simp[j]
    ·have o:e2_ a=true:=by unfold e2_;rw[k];cases a<;>simp_all
     have r:e2_ b=true:=by unfold e2_;rw[f];cases b<;>simp_all
     rw[if_pos ⟨o,λ_=>r⟩,decide_eq_false i,decide_eq_false j];simp only[Bool.or_self,cond_false];rw[vw_ k f];have d:ku_ (a++46::b).length (QJ a.length)=b.length:=by unfold ku_;simp
     rw[d];exact sm_ (bj_ s) a b o f
  ·have c:(a.all bm_&&b.all bm_)=false:=by simpa using c
   rw[c];simp only[cond_false];rw[if_neg];rintro⟨g,d⟩;have d:=d trivial;unfold e2_ at g d;rw[YJ]at g d;rw[g.2,d.2]at c
   cases c
end
section
open Go Go.RowKit Go.Shelf Go.Lib
def bK (l:List UInt8):ByteArray:=⟨l.toArray⟩
theorem aq_ (l:List UInt8):(bK l).size=l.length:=by simp[bK,ByteArray.size]
theorem i3_ (l:List UInt8):(bK l).data.toList=l:=rfl
theorem sg_ (l:List UInt8):(bK l).toList=l:=Lib.toList_data (bK l)
theorem bg_ (a b:List UInt8):bK a++bK b=bK (a++b):=by apply ByteArray.ext;simp[bK,ByteArray.data_append]
theorem Kb_ (a:List UInt8) {k:Nat}:(bK a).extract 0 k=bK (a.take k):=by apply ByteArray.ext;simp[bK]
theorem Ka_ (a:List UInt8) {k n:Nat} (h:a.length=n):(bK a).extract k n=bK (a.drop k):=by apply ByteArray.ext;subst h;simp[bK];exact List.take_of_length_le (by simp)
theorem ny_ (n:Nat):Lib.repeatL [48] n=List.replicate n 48:=by
 induction n with
 | zero=>rfl
 | succ n a=>simp[Lib.repeatL,a,List.replicate_succ]
theorem iv_ (d:List UInt8) (a:Nat):(km_ d a).length=max d.length (a+1):=by
 unfold km_;split
 ·simp;omega
 ·omega
theorem E6_ (d:List UInt8) (a:Nat):(e0_ d a).length<=d.length+1:=by unfold e0_ Lib.trimLeftS;have h:=(List.dropWhile_sublist ([48].contains ·) (l:=(km_ d a).take ((km_ d a).length-a))).length_le;have:=iv_ d a;rw[List.length_take]at h;omega
theorem Iq_ (d:List UInt8) (a:Nat):(hw_ d a).length<=a:=by unfold hw_ Lib.trimRightS;rw[List.length_reverse];have h:=(List.dropWhile_sublist ([48].contains ·) (l:=((km_ d a).drop ((km_ d a).length-a)).reverse)).length_le;have:=iv_ d a;rw[List.length_reverse,List.length_drop]at h;omega
def Fn_ (a:Bool) (d:List UInt8) (b:Nat) (w:QV) (e:Ending) (w':QV):Prop:=XU w.heap.size w w'/\e = XW (YY #[QZ (bK (db_ a d b).1),QK QU (db_ a d b).2])
theorem Jj_ (g:Bool) (d:List UInt8) (f:Nat) (hd:d.length<=1000000) (b0:f<=1000000) (w:QV) :
    Calls QW 297 #[XK g,QZ (bK d),QK QU (f:Int)] w (Fn_ g d f w):=by
 obtain⟨n,J⟩:=a_ d.length;have hn:(bK d).size=n:=by rw[aq_];exact J.o
 have az:n<=1000000:=by rw[<-J.o];exact hd
 obtain⟨D,HD⟩:=a_ (bK d);obtain⟨P,S⟩:=a_ (km_ d f);obtain⟨r,HW⟩:=a_ (e0_ d f);obtain⟨k,T⟩:=a_ (hw_ d f);have am:=iv_ d f;have ai:=E6_ d f;have aj:=Iq_ d f;rw[S.o,J.o]at am;rw[HW.o,J.o]at ai;rw[T.o]at aj;obtain⟨K,HK⟩:=a_ (P.length-f);have aw:K<=1000001:=by rw[<-HK.o];omega
 have hw:=q_ (show Lib.trimLeftS (P.take K) [48]=r from by rw[<-HW.o,<-HK.o,<-S.o];rfl);have hp:=q_ (show Lib.trimRightS (P.drop K) [48]=k from by rw[<-T.o,<-HK.o,<-S.o];rfl)
 have q:=q_ (show db_ g d f=(if 40<r.length\/20<k.length then ([],2)
  else if r=[]/\k=[] then ([48,46,48],0)
  else ((if g=true then [45] else [])++(if r=[] then [48] else r)++[46]++(if k=[] then [48] else k),0)) from by unfold db_;rw[HW.o,T.o])
 rw[HD.o];have ab:D.size=n:=by rw[<-HD.o];exact hn
 have I:=q_ ab;clear hn ab hd;go_enter Tryz.func297,Tryz.ntmps297
 go_upto_if 13 with fail;go_cut [1] (λs1 wx=>s1 = QZ (bK P)/\XU w.heap.size w wx)
 case first=>
  by_cases af:n<=f
  ·obtain⟨c,hc⟩:∃c:Nat,c=f+1-n:=⟨_,rfl⟩;have a0:=q_ (q5_ ⟨#[48]⟩ c w (by omega) (by rw[show (⟨#[48]⟩:ByteArray).size=1 from rfl,Nat.one_mul];omega));have w1:IntKind.i64.wrap ((f:Int)+1)=(f:Int)+1:=IntWalk.i64_in _ (by omega);have w2:IntKind.i64.wrap ((f:Int)+1-(D.size:Int))=(c:Int):=by rw[I.o,IntWalk.i64_in _ (by omega)];omega
   have e1:D.size<=f:=by rw[I.o];omega
   have e2:(f:Int)+1-(D.size:Int)=(c:Int):=by rw[I.o];omega
   have N:=q_ (show bK (List.replicate c 48)++D=bK P from by rw[<-HD.o,<-S.o,bg_];unfold km_;rw[if_pos (by rw[J.o];exact af),J.o,hc]);have M:(⟨#[48]⟩:ByteArray).data.toList=[48]:=rfl;have E:=a0.o;rw[M,ny_]at E;have O:=q_ (show Calls QW 325 #[QZ ⟨#[48]⟩,QK QU (c:Int)] w λe w'=>e = XW (QZ (bK (List.replicate c 48)))/\XU w.heap.size w w' from E);obtain⟨Z,HZ⟩:=a_ (bK (List.replicate c 48));have ay:Z.size<=1000001:=by rw[<-HZ.o,aq_,List.length_replicate];omega
   rw[HZ.o]at O N;have ar:∀W:QV,(Op.stringOp .add Z D).run QW W = .ok (.string (Z++D)) W:=λW=>run_string_add_sum W _ _ (by rw[I.o];omega);clear E a0 M hc;go_wp2_with fail;refine O.o.mono ?_;rintro e w' ⟨rfl,hB⟩;have HB:=q_ hB;clear hB;go_wp2_with fail;go_meet;exact⟨by rw[N.o],HB.o⟩
  ·have e1:¬D.size<=f:=by rw[I.o];omega
   have N:=q_ (show D=bK P from by rw[<-HD.o,<-S.o];unfold km_;rw[if_neg (by rw[J.o];exact af)]);go_wp2_with fail;go_meet;exact⟨by rw[N.o],XV _ _⟩
 case rest=>
  obtain⟨rfl,a9⟩:=hcut;have B:=q_ a9;clear a9;rename QV=>w1
  obtain⟨y,L⟩:=a_ (bK P);have ac:y.size=K+f:=by rw[<-L.o,aq_,<-HK.o];omega
  have a7:=q_ ac;have R:=q_ (show y.extract 0 K=bK (P.take K) from by rw[<-L.o];exact Kb_ P);have s:=q_ (show y.extract K y.size=bK (P.drop K) from by rw[<-L.o,aq_];exact Ka_ P rfl);rw[L.o];have w3:IntKind.i64.wrap ((y.size:Int)-(f:Int))=(K:Int):=by rw[a7.o,IntWalk.i64_in _ (by omega)];omega
  have w4:(0:Int)<=(K:Int):=by omega
  have w5:(K:Int)<=(y.size:Int):=by rw[a7.o];omega
  have w6:((K:Int)).toNat=K:=rfl;have ap:=q_ (λ(W:QV)=>show Calls QW 326 #[QZ (y.extract K y.size),QZ ⟨#[48]⟩] W λe w'=>e = XW (QZ (bK k))/\XU W.heap.size W w' from by have:=Ez_ (y.extract K y.size) W (by rw[s.o,aq_,List.length_drop];omega);rw[s.o,i3_,hp.o]at this;rw[s.o];exact this);clear ac;have p1:=q_ (show XU w.heap.size w w1.drew from ⟨B.o.os,B.o.tape,B.o.output,B.o.size,B.o.block⟩);go_upto_region 3 with fail;go_cut [8,9] (λs8 s9 wx=>s8 = QZ (bK (P.take K))/\s9 = QZ (bK k)/\XU w.heap.size w wx)
  case first=>
   go_region_held3 (λw'=>XU w.heap.size w w') (first | exact p1.o | exact B.o | exact G.o | (trace_state;fail))
    (first | (go_at_call 326;refine (ap.o _).mono ?_;rintro e w2 ⟨rfl,ad⟩;have G:=q_ (p1.o.trans (ad.mono p1.o.size));clear ad))
   go_wp2_with fail;go_meet;exact⟨by rw[R.o],rfl,G.o⟩
  case rest=>
   obtain⟨h8,h9,aa⟩:=hcut;have G:=q_ aa;clear aa;rename QV=>w2
   have a4:=q_ (λ(W:QV)=>show Calls QW 327 #[QZ (bK (P.take K)),QZ ⟨#[48]⟩] W λe w'=>e = XW (QZ (bK r))/\XU W.heap.size W w' from by have:=Ey_ (bK (P.take K)) W;rw[i3_,hw.o]at this;exact this);obtain⟨Tk,ak⟩:=a_ (bK (P.take K));rw[ak.o]at a4 h8;subst h8 h9;obtain⟨a,x⟩:=a_ (bK r);obtain⟨i,t⟩:=a_ (bK k);have a5:a.size=r.length:=by rw[<-x.o,aq_]
   have Y:i.size=k.length:=by rw[<-t.o,aq_]
   have ah:a.toList=r:=by rw[<-x.o,sg_]
   have ag:i.toList=k:=by rw[<-t.o,sg_]
   have a8:=q_ a5;have a6:=q_ Y;have U:=q_ ah;have C:=q_ ag;rw[x.o]at a4;rw[t.o];have av:a.size<=1000001:=by rw[a5];omega
   have au:i.size<=1000001:=by rw[Y];omega
   clear a5 Y ah ag w3 w4 w5 w6;go_wp2_with fail;refine (a4.o _).mono ?_;rintro e w3 ⟨rfl,ae⟩;have m:=q_ (G.o.trans (ae.mono G.o.size));clear ae;by_cases p:40<r.length\/20<k.length
   ·have ht:=q_ (show db_ g d f=([],2) from by rw[q.o,if_pos p]);by_cases ao:40<a.size
    ·have o1:(40:Int)<(a.size:Int):=by omega
     go_wp2_with fail;exact bodyPost_ret (v:=YY #[QZ ⟨#[]⟩,QK QU 2]) (by simp[results,Tryz.results297,go_sem]) rfl ⟨m.o,by rw[ht.o];rfl⟩
    ·have o1:¬(40:Int)<(a.size:Int):=by omega
     have o2:(20:Int)<(i.size:Int):=by rw[a6.o];rw[a8.o]at ao;omega
     go_wp2_with fail;exact bodyPost_ret (v:=YY #[QZ ⟨#[]⟩,QK QU 2]) (by simp[results,Tryz.results297,go_sem]) rfl ⟨m.o,by rw[ht.o];rfl⟩
   ·have o1:¬(40:Int)<(a.size:Int):=by rw[a8.o];omega
    have o2:¬(20:Int)<(i.size:Int):=by rw[a6.o];omega
    by_cases j:r=[]
    ·have q1:a.toList=[]:=by rw[U.o];exact j
     by_cases b:k=[]
     ·have q2:i.toList=[]:=by rw[C.o];exact b
      have ht:=q_ (show db_ g d f=([48,46,48],0) from by rw[q.o,if_neg p,if_pos ⟨j,b⟩]);clear p j b;go_wp2_with fail;exact bodyPost_ret (v:=YY #[QZ ⟨#[48,46,48]⟩,QK QU 0]) (by simp[results,Tryz.results297,go_sem]) rfl ⟨m.o,by rw[ht.o];rfl⟩
     ·have q2:¬i.toList=[]:=by rw[C.o];exact b
      have aq:i.toList.isEmpty=false:=by rw[C.o];simpa using b
      have ht:=q_ (show db_ g d f=((if g=true then [45] else [])++[48]++[46]++k,0) from by rw[q.o,if_neg p,if_neg (λh=>b h.2),if_pos j,if_neg b])
      clear p j b
      cases g with
      | true=>
       have a1:∀W:QV,(Op.stringOp .add ⟨#[45]⟩ ⟨#[48]⟩).run QW W = .ok (.string (⟨#[45]⟩++⟨#[48]⟩)) W:=λW=>run_string_add_sum W _ _ (by decide);have V:∀W:QV,(Op.stringOp .add (⟨#[45]⟩++⟨#[48]⟩) ⟨#[46]⟩).run QW W = .ok (.string (⟨#[45]⟩++⟨#[48]⟩++⟨#[46]⟩)) W:=λW=>run_string_add_sum W _ _ (by decide);have X:∀W:QV,(Op.stringOp .add (⟨#[45]⟩++⟨#[48]⟩++⟨#[46]⟩) i).run QW W = .ok (.string (⟨#[45]⟩++⟨#[48]⟩++⟨#[46]⟩++i)) W:=λW=>run_string_add_sum W _ _ (by rw[show ((⟨#[45]⟩++⟨#[48]⟩++⟨#[46]⟩:ByteArray)).size=3 from rfl];omega);go_wp2_with fail;exact bodyPost_ret (v:=.tuple #[.string (⟨#[45]⟩++⟨#[48]⟩++⟨#[46]⟩++i),.int .i64 0]) (by simp[results,Tryz.results297,go_sem]) rfl ⟨m.o,by rw[ht.o,<-t.o];exact congrArg (λz=>Ending.returned (.tuple #[.string z,.int .i64 0])) (bg_ [45,48,46] k)⟩
      | false=>
       have V:∀W:QV,(Op.stringOp .add ⟨#[48]⟩ ⟨#[46]⟩).run QW W = .ok (.string (⟨#[48]⟩++⟨#[46]⟩)) W:=λW=>run_string_add_sum W _ _ (by decide);have X:∀W:QV,(Op.stringOp .add (⟨#[48]⟩++⟨#[46]⟩) i).run QW W = .ok (.string (⟨#[48]⟩++⟨#[46]⟩++i)) W:=λW=>run_string_add_sum W _ _ (by rw[show ((⟨#[48]⟩++⟨#[46]⟩:ByteArray)).size=2 from rfl];omega);go_wp2_with fail;exact bodyPost_ret (v:=.tuple #[.string (⟨#[48]⟩++⟨#[46]⟩++i),.int .i64 0]) (by simp[results,Tryz.results297,go_sem]) rfl ⟨m.o,by rw[ht.o,<-t.o];exact congrArg (λz=>Ending.returned (.tuple #[.string z,.int .i64 0])) (bg_ [48,46] k)⟩
    ·have q1:¬a.toList=[]:=by rw[U.o];exact j
     have b1:a.toList.isEmpty=false:=by rw[U.o];simpa using j
     by_cases b:k=[]
     ·have q2:i.toList=[]:=by rw[C.o];exact b
      have ht:=q_ (show db_ g d f=((if g=true then [45] else [])++r++[46]++[48],0) from by rw[q.o,if_neg p,if_neg (λh=>j h.1),if_neg j,if_pos b])
      clear p j b
      cases g with
      | true=>
       have a1:∀W:QV,(Op.stringOp .add ⟨#[45]⟩ a).run QW W = .ok (.string (⟨#[45]⟩++a)) W:=λW=>run_string_add_sum W _ _ (by rw[show ((⟨#[45]⟩:ByteArray)).size=1 from rfl];omega);have V:∀W:QV,(Op.stringOp .add (⟨#[45]⟩++a) ⟨#[46]⟩).run QW W = .ok (.string (⟨#[45]⟩++a++⟨#[46]⟩)) W:=λW=>run_string_add_sum W _ _ (by rw[ByteArray.size_append,show ((⟨#[45]⟩:ByteArray)).size=1 from rfl,show ((⟨#[46]⟩:ByteArray)).size=1 from rfl];omega);have X:∀W:QV,(Op.stringOp .add (⟨#[45]⟩++a++⟨#[46]⟩) ⟨#[48]⟩).run QW W = .ok (.string (⟨#[45]⟩++a++⟨#[46]⟩++⟨#[48]⟩)) W:=λW=>run_string_add_sum W _ _ (by rw[ByteArray.size_append,ByteArray.size_append,show ((⟨#[45]⟩:ByteArray)).size=1 from rfl,show ((⟨#[46]⟩:ByteArray)).size=1 from rfl,show ((⟨#[48]⟩:ByteArray)).size=1 from rfl];omega);go_wp2_with fail;exact bodyPost_ret (v:=.tuple #[.string (⟨#[45]⟩++a++⟨#[46]⟩++⟨#[48]⟩),.int .i64 0]) (by simp[results,Tryz.results297,go_sem]) rfl ⟨m.o,by rw[ht.o,<-x.o];exact congrArg (λz=>Ending.returned (.tuple #[.string z,.int .i64 0])) (by rw[<-bg_,<-bg_,<-bg_];rfl)⟩
      | false=>
       have V:∀W:QV,(Op.stringOp .add a ⟨#[46]⟩).run QW W = .ok (.string (a++⟨#[46]⟩)) W:=λW=>run_string_add_sum W _ _ (by rw[show ((⟨#[46]⟩:ByteArray)).size=1 from rfl];omega);have X:∀W:QV,(Op.stringOp .add (a++⟨#[46]⟩) ⟨#[48]⟩).run QW W = .ok (.string (a++⟨#[46]⟩++⟨#[48]⟩)) W:=λW=>run_string_add_sum W _ _ (by rw[ByteArray.size_append,show ((⟨#[46]⟩:ByteArray)).size=1 from rfl,show ((⟨#[48]⟩:ByteArray)).size=1 from rfl];omega);go_wp2_with fail;exact bodyPost_ret (v:=.tuple #[.string (a++⟨#[46]⟩++⟨#[48]⟩),.int .i64 0]) (by simp[results,Tryz.results297,go_sem]) rfl ⟨m.o,by rw[ht.o,<-x.o];exact congrArg (λz=>Ending.returned (.tuple #[.string z,.int .i64 0])) (by rw[if_neg (by decide),List.nil_append,<-bg_,<-bg_];rfl)⟩
     ·have q2:¬i.toList=[]:=by rw[C.o];exact b
      have aq:i.toList.isEmpty=false:=by rw[C.o];simpa using b
      have ht:=q_ (show db_ g d f=((if g=true then [45] else [])++r++[46]++k,0) from by rw[q.o,if_neg p,if_neg (λh=>b h.2),if_neg j,if_neg b])
      clear p j b
      cases g with
      | true=>
       have a1:∀W:QV,(Op.stringOp .add ⟨#[45]⟩ a).run QW W = .ok (.string (⟨#[45]⟩++a)) W:=λW=>run_string_add_sum W _ _ (by rw[show ((⟨#[45]⟩:ByteArray)).size=1 from rfl];omega);have V:∀W:QV,(Op.stringOp .add (⟨#[45]⟩++a) ⟨#[46]⟩).run QW W = .ok (.string (⟨#[45]⟩++a++⟨#[46]⟩)) W:=λW=>run_string_add_sum W _ _ (by rw[ByteArray.size_append,show ((⟨#[45]⟩:ByteArray)).size=1 from rfl,show ((⟨#[46]⟩:ByteArray)).size=1 from rfl];omega);have X:∀W:QV,(Op.stringOp .add (⟨#[45]⟩++a++⟨#[46]⟩) i).run QW W = .ok (.string (⟨#[45]⟩++a++⟨#[46]⟩++i)) W:=λW=>run_string_add_sum W _ _ (by rw[ByteArray.size_append,ByteArray.size_append,show ((⟨#[45]⟩:ByteArray)).size=1 from rfl,show ((⟨#[46]⟩:ByteArray)).size=1 from rfl];omega);go_wp2_with fail;exact bodyPost_ret (v:=.tuple #[.string (⟨#[45]⟩++a++⟨#[46]⟩++i),.int .i64 0]) (by simp[results,Tryz.results297,go_sem]) rfl ⟨m.o,by rw[ht.o,<-x.o,<-t.o];exact congrArg (λz=>Ending.returned (.tuple #[.string z,.int .i64 0])) (by rw[<-bg_,<-bg_,<-bg_];rfl)⟩
      | false=>
       have V:∀W:QV,(Op.stringOp .add a ⟨#[46]⟩).run QW W = .ok (.string (a++⟨#[46]⟩)) W:=λW=>run_string_add_sum W _ _ (by rw[show ((⟨#[46]⟩:ByteArray)).size=1 from rfl];omega);have X:∀W:QV,(Op.stringOp .add (a++⟨#[46]⟩) i).run QW W = .ok (.string (a++⟨#[46]⟩++i)) W:=λW=>run_string_add_sum W _ _ (by rw[ByteArray.size_append,show ((⟨#[46]⟩:ByteArray)).size=1 from rfl];omega);go_wp2_with fail;exact bodyPost_ret (v:=.tuple #[.string (a++⟨#[46]⟩++i),.int .i64 0]) (by simp[results,Tryz.results297,go_sem]) rfl ⟨m.o,by rw[ht.o,<-x.o,<-t.o];exact congrArg (λz=>Ending.returned (.tuple #[.string z,.int .i64 0])) (by rw[if_neg (by decide),List.nil_append,<-bg_,<-bg_];rfl)⟩
def aa_ (w:QV):Prop:=∃m:Int,w.cell? ⟨Tryz.lays145_ren.g 1,0,QY⟩=QJ (QK QU m)
theorem k_ {w w':QV} (h:aa_ w) (hb:XU w.heap.size w w'):aa_ w':=by
 obtain⟨m,a⟩:=h;refine⟨m,(hb.cell (p:=⟨Tryz.lays145_ren.g 1,0,QY⟩) ?_).trans a⟩;refine Classical.byContradiction λb=>?_;have:w.heap[Tryz.lays145_ren.g 1]?=QY:=Array.getElem?_eq_none (by simpa using b);unfold World.cell? at a;simp only[this]at a
 cases a
theorem It_ {s:ByteArray} (c:UInt8):Lib.hasPrefix s.data.toList [c]=(s.data.toList.head?==QJ c):=by
 unfold Lib.hasPrefix
 cases s.data.toList with
 | nil=>rfl
 | cons d l=>simp[List.isPrefixOf,Bool.beq_eq_decide_eq,eq_comm]
def My_ (s:ByteArray) (w:QV) (e:Ending) (w':QV):Prop:=XU w.heap.size w w'/\e = XW (YY #[QZ (ct_ s).1,QK QU (ct_ s).2])
theorem an_ {b:Nat} {w w':QV} (h:XU b w w') (m:Nat):XU b w (w'.drewN m):=⟨h.os,h.tape,h.output,h.size,h.block⟩
theorem u0_ (s:ByteArray) (hs:s.size<=100000) (w:QV) (hg:aa_ w):Calls QW 255 #[QZ s] w (My_ s w):=by
 obtain⟨t,HT⟩:=a_ (bs_ s);have ht:t.size<=100000:=by rw[<-HT.o];exact YK (rb_ s) hs
 obtain⟨sb,J⟩:=a_ (bj_ s);obtain⟨d,S⟩:=a_ (Lib.cut t.data.toList [46]).1;obtain⟨c,T⟩:=a_ (Lib.cut t.data.toList [46]).2.1;obtain⟨V,a1⟩:=a_ (Lib.cut t.data.toList [46]).2.2;have N:=q_ (show ((bK (jz_ s).1:ByteArray),(jz_ s).2)=ct_ s from s4_ s);have M:=q_ (show jz_ s=(if e2_ d=true/\(V=true->e2_ c=true) then db_ sb (d++c) c.length else ([],6)) from by unfold jz_;simp only[HT.o,J.o,S.o,T.o,a1.o])
 have a9:=q_ (show d.length+c.length<=t.size from by
  rw[<-S.o,<-T.o,<-aj_ t];rcases ti_ t.data.toList with h | ⟨a,b,h,ai⟩
  ·rw[Gg_ h];simp
  ·rw[h,t9_ ai];simp)
 have a6:=q_ (λW:QV=>qx_ s ⟨#[45]⟩ W);have a7:=q_ (λW:QV=>qx_ s ⟨#[43]⟩ W);have a3:=q_ (show Lib.hasPrefix s.data.toList (⟨#[45]⟩:ByteArray).data.toList=sb from by rw[<-J.o];exact It_ 45);have a4:=q_ (show (sb || Lib.hasPrefix s.data.toList (⟨#[43]⟩:ByteArray).data.toList)=gy_ s from by rw[<-J.o,show Lib.hasPrefix s.data.toList (⟨#[43]⟩:ByteArray).data.toList=(s.data.toList.head?==some 43) from It_ 43];rfl);obtain⟨O,U⟩:=a_ (Lib.hasPrefix s.data.toList (⟨#[43]⟩:ByteArray).data.toList);have aa:=q_ (λW:QV=>show Calls QW 294 #[QZ s,QZ ⟨#[45]⟩] W λe w'=>e = XW (XK sb)/\w'=W from by have:=a6.o W;rwa [a3.o]at this);have ab:=q_ (λW:QV=>show Calls QW 294 #[QZ s,QZ ⟨#[43]⟩] W λe w'=>e = XW (XK O)/\w'=W from by have:=a7.o W;rwa [U.o]at this);have a5:=q_ (show (sb || O)=gy_ s from by rw[<-U.o];exact a4.o);have a0:=q_ (show t=cond (sb || O) (s.extract 1 s.size) s from by rw[a5.o,<-HT.o];rfl);have Z:=q_ (show (sb || O)=true->0<s.size from by intro h;rw[a5.o]at h;refine Classical.byContradiction λh0=>?_;rw[(nl_ h0).2.1]at h;cases h);obtain⟨m,hm⟩:=hg;have ae:=q_ (λ(W:QV) (hW:W.cell? ⟨Tryz.lays145_ren.g 1,0,none⟩=some (QK QU m))=>show Calls QW 295 #[QZ t,QZ ⟨#[46]⟩] W λe w'=>e = XW (YY #[QZ (bK d),QZ (bK c),XK V])/\∃n,w'=W.drewN n from by have:=Bb_ t ⟨#[46]⟩ m W (by omega) hW;rw[show (⟨#[46]⟩:ByteArray).data.toList=[46] from rfl,S.o,T.o,a1.o]at this;exact this);have HM:=q_ hm;have ac:=q_ (XV w.heap.size w);clear hm a6 a7 a3 a4 U J HT;go_enter Tryz.func255,Tryz.ntmps255
 go_wp2_with fail;refine (aa.o _).mono ?_;rintro e w' ⟨rfl,rfl⟩
 go_upto_region 2 with fail;go_cut [14] (λak wx=>ak = XK (sb || O)/\wx=w')
 case first=>
  cases sb with
  | true=>
   go_wp2_with fail;go_meet;exact⟨rfl,rfl⟩
  | false=>
   go_wp2_with fail;refine (ab.o _).mono ?_;rintro e w' ⟨rfl,rfl⟩
   go_wp2_with fail;go_meet;exact⟨rfl,rfl⟩
 case rest=>
  obtain⟨X,rfl⟩:=hcut;go_upto_if 14 with fail;go_cut [0] (λs0 wx=>s0 = QZ t/\wx=wc)
  case first=>
   obtain⟨sy,af⟩:=a_ (sb || O)
   rw[af.o]at X Z a0;subst X
   cases sy with
   | true=>
    have am:=Z.o rfl;have G:=q_ (show s.extract 1 s.size=t from a0.o.symm);have e1:(1:Int)<=(s.size:Int):=by omega
    go_wp2_with fail;go_meet;exact⟨by rw[G.o],rfl⟩
   | false=>
    have G:=q_ (show s=t from a0.o.symm);go_wp2_with fail;go_meet;exact⟨by rw[G.o],rfl⟩
  case rest=>
   obtain⟨rfl,rfl⟩:=hcut;clear X;go_wp2_with fail;refine (ae.o _ HM.o).mono ?_;rintro e w1 ⟨rfl,k,a8⟩;have f:=an_ ac.o k;rw[<-a8]at f;have f:=q_ f;clear a8;have aj:=a9.o;have x:(bK c).size=c.length:=aq_ c;obtain⟨l2,I⟩:=a_ c.length;rw[I.o]at aj x;have r:=q_ (λW:QV=>show Calls QW 297 #[.bool sb,.string (bK d++bK c),.int .i64 ((bK c).size:Int)] W (Fn_ sb (d++c) c.length W) from by rw[bg_,x,<-I.o];exact Jj_ sb (d++c) c.length (by rw[List.length_append,I.o];omega) (by rw[I.o];omega) W);have z:=q_ (λW:QV=>show Calls QW 296 #[.string (bK d)] W (p_ (e2_ d) W) from by have:=nw_ (bK d) W (by rw[aq_];omega);rwa [Bo_,i3_]at this);have L:=q_ (λW:QV=>show Calls QW 296 #[.string (bK c)] W (p_ (e2_ c) W) from by have:=nw_ (bK c) W (by omega);rwa [Bo_,i3_]at this);have Y:∀W:QV,(Op.stringOp .add (bK d) (bK c)).run QW W = .ok (.string (bK d++bK c)) W:=λW=>run_string_add_sum W _ _ (by rw[x,aq_];omega)
   have B:=q_ (show ¬(e2_ d=true/\(V=true->e2_ c=true))->ct_ s=(⟨#[]⟩,6) from λh=>by
    rw[<-N.o,M.o,if_neg h];rfl)
   have q:=q_ (show (e2_ d=true/\(V=true->e2_ c=true))->ct_ s=(bK (db_ sb (d++c) c.length).1,(db_ sb (d++c) c.length).2) from λh=>by
    rw[<-N.o,M.o,if_pos h])
   obtain⟨x1,ag⟩:=a_ (e2_ d);obtain⟨x2,ah⟩:=a_ (e2_ c);obtain⟨b1,P⟩:=a_ (bK d);obtain⟨b2,R⟩:=a_ (bK c);rw[ag.o]at z B q;rw[ah.o]at L B q;rw[P.o]at z Y r;rw[R.o]at L Y r x;rw[P.o,R.o];clear x
   cases x1 with
   | false=>
    have C:=q_ (B.o (λh=>by cases h.1));go_wp2_with fail;refine (z.o _).mono ?_;rintro e w2 ⟨rfl,i⟩;have j:=q_ (f.o.trans (i.mono f.o.size));clear i;go_wp2_with fail;exact bodyPost_ret (v:=YY #[QZ ⟨#[]⟩,QK QU 6]) (by simp[results,Tryz.results255,go_sem]) rfl ⟨j.o,by rw[C.o]⟩
   | true=>
    cases V with
    | false=>
     have C:=q_ (q.o ⟨rfl,λh=>by cases h⟩);go_wp2_with fail;refine (z.o _).mono ?_;rintro e w2 ⟨rfl,i⟩;have j:=q_ (f.o.trans (i.mono f.o.size));clear i;go_wp2_with fail;refine (r.o _).mono ?_;rintro e w3 ⟨p,rfl⟩;have y:=q_ (j.o.trans (p.mono j.o.size));clear p;obtain⟨r1,D⟩:=a_ (bK (db_ sb (d++c) c.length).1);obtain⟨r2,E⟩:=a_ (db_ sb (d++c) c.length).2;rw[D.o,E.o]at C;rw[D.o,E.o];go_wp2_with fail;exact bodyPost_ret (v:=YY #[QZ r1,QK QU r2]) (by simp[results,Tryz.results255,go_sem]) rfl ⟨y.o,by rw[C.o]⟩
    | true=>
     cases x2 with
     | false=>
      have C:=q_ (B.o (λh=>by cases h.2 rfl));go_wp2_with fail;refine (z.o _).mono ?_;rintro e w2 ⟨rfl,i⟩;have j:=q_ (f.o.trans (i.mono f.o.size));clear i;go_wp2_with fail;refine (L.o _).mono ?_;rintro e w3 ⟨rfl,p⟩;have y:=q_ (j.o.trans (p.mono j.o.size));clear p;go_wp2_with fail;exact bodyPost_ret (v:=YY #[QZ ⟨#[]⟩,QK QU 6]) (by simp[results,Tryz.results255,go_sem]) rfl ⟨y.o,by rw[C.o]⟩
     | true=>
      have C:=q_ (q.o ⟨rfl,λh=>rfl⟩);go_wp2_with fail;refine (z.o _).mono ?_;rintro e w2 ⟨rfl,i⟩;have j:=q_ (f.o.trans (i.mono f.o.size));clear i;go_wp2_with fail;refine (L.o _).mono ?_;rintro e w3 ⟨rfl,p⟩;have y:=q_ (j.o.trans (p.mono j.o.size));clear p;go_wp2_with fail;refine (r.o _).mono ?_;rintro e w4 ⟨a2,rfl⟩;have ad:=q_ (y.o.trans (a2.mono y.o.size));clear a2;obtain⟨r1,D⟩:=a_ (bK (db_ sb (d++c) c.length).1);obtain⟨r2,E⟩:=a_ (db_ sb (d++c) c.length).2;rw[D.o,E.o]at C;rw[D.o,E.o];go_wp2_with fail;exact bodyPost_ret (v:=YY #[QZ r1,QK QU r2]) (by simp[results,Tryz.results255,go_sem]) rfl ⟨ad.o,by rw[C.o]⟩
theorem Ly_ (b:Bool) (d:List UInt8) (a:Nat):(db_ b d a).1.length<=62:=by
 unfold db_;split
 ·simp
 ·split
  ·simp
  ·rename_i h _;have h1:(e0_ d a).length<=40:=by omega
   have h2:(hw_ d a).length<=20:=by omega
   simp only[List.length_append];have c:(if b=true then [(45:UInt8)] else []).length<=1:=by split<;>simp
   have e:(if e0_ d a=[] then [(48:UInt8)] else e0_ d a).length<=40:=by split;exact (by decide);exact h1
   have f:(if hw_ d a=[] then [(48:UInt8)] else hw_ d a).length<=20:=by split;exact (by decide);exact h2
   simp only[List.length_cons,List.length_nil];omega
theorem ii_ {s:ByteArray} (h:62<s.size):bl_ s=false:=by
 unfold bl_;rw[<-s4_ s]
 have h1:decide ((⟨(jz_ s).1.toArray⟩:ByteArray)=s)=false:=decide_eq_false λe=>by
  have h2:(jz_ s).1.length<=62:=by
   unfold jz_;simp only;split
   ·exact Ly_ _ _ _
   ·simp
  rw[<-e]at h;simp[ByteArray.size]at h;omega
 simp only[h1,Bool.and_false]
theorem ua_ (s:ByteArray) (p:s.size<=9223372036854775807) (w:QV) (k:aa_ w):Calls QW 185 #[QZ s] w (p_ (bl_ s) w):=by
 go_enter Tryz.func185,Tryz.ntmps185
 by_cases m:62<s.size
 ·have a:=q_ (ii_ m);have j:(62:Int)<(s.size:Int):=by omega
  go_wp2_with fail;go_ret;exact⟨j_ a.o.symm,XV _ _⟩
 ·have j:¬(62:Int)<(s.size:Int):=by omega
  have h:=q_ (u0_ s (by omega) w k);go_wp2_with fail;refine h.o.mono ?_;rintro e q ⟨hb,rfl⟩;have g:=q_ hb;obtain⟨d,f⟩:=a_ (ct_ s).1;obtain⟨i,b⟩:=a_ (ct_ s).2;rw[f.o,b.o];have a:=q_ (show bl_ s=(decide (i=0)&&decide (d=s)) from by unfold bl_;rw[f.o,b.o]);clear hb;by_cases h2:i=0
  ·have c:=q_ (show (d.toList==s.toList)=bl_ s from by
     rw[a.o,decide_eq_true h2];by_cases h1:d=s
     ·rw[decide_eq_true h1,h1];simp
     ·rw[decide_eq_false h1,ba_ h1];rfl)
   clear b;subst h2;go_wp2_with fail;go_ret;exact⟨j_ c.o,g.o⟩
  ·have c:=q_ (show false=bl_ s from by rw[a.o,decide_eq_false h2];rfl);go_wp2_with fail;go_ret;exact⟨j_ c.o,g.o⟩
end
section
open Go Go.RowKit
def s0_ (v:g_) (s:XZ):XZ:=
 if v.kind=0 then YU 233 (.agg #[])
 else if v.kind=1 then YU 194 (XK v.truth)
 else if v.kind=2 then YU 188 (QK QU v.num)
 else if v.kind=3 then YU 189 (QZ v.text)
 else if v.kind=4 then YU 234 (QZ v.text)
 else if v.kind=8 then YU 234 (QZ v.text)
 else if v.kind=9 then YU 234 (QZ v.text)
 else if v.kind=5 then YU 191 (s)
 else if v.kind=6 then YU 193 (QK QU v.num)
 else if v.kind=7 then YU 193 (QK QU v.num)
 else if v.kind=10 then YU 237 (.agg #[QZ v.text,QZ v.extra])
 else YU 238 (QK QU v.kind)
def j3_ (v:g_) (s:XZ) (w:QV) (e:Ending) (w':QV):Prop:=e = XW (s0_ v s)/\XU w.heap.size w w'
theorem iw_ (v:g_) (s:XZ) (w:QV):Calls QW 128 #[.agg (c_ v s)] w (j3_ v s w):=by
 obtain⟨p,a⟩:=a_ (s0_ v s);unfold j3_;rw[a.o];unfold s0_ at a
 cases v with
 | mk k b n t x l=>
 simp only[c_,g_.kind,g_.truth,g_.num,g_.text,g_.extra]at a ⊢;by_cases h0:k=0
 ·subst h0;have c:=q_ (show Ending.returned p = XW (YU 233 (.agg #[])) from by rw[<-a.o];rfl);clear a;go_enter Tryz.func128,Tryz.ntmps128
  go_wp2_with fail;go_ret;exact⟨c.o.symm,(XV _ _).alloc (XJ _) _⟩
 ·have e0:((k:Int)==0)=false:=beq_eq_false_iff_ne.2 h0;by_cases h1:k=1
  ·subst h1;have c:=q_ (show Ending.returned p = XW (YU 194 (XK b)) from by rw[<-a.o];rfl);clear a;go_enter Tryz.func128,Tryz.ntmps128
   go_wp2_with fail;go_ret;exact⟨c.o.symm,(XV _ _).alloc (XJ _) _⟩
  ·have r:((k:Int)==1)=false:=beq_eq_false_iff_ne.2 h1;by_cases h2:k=2
   ·subst h2;have c:=q_ (show Ending.returned p = XW (YU 188 (QK QU n)) from by rw[<-a.o];rfl);clear a;go_enter Tryz.func128,Tryz.ntmps128
    go_wp2_with fail;go_ret;exact⟨c.o.symm,(XV _ _).alloc (XJ _) _⟩
   ·have y:((k:Int)==2)=false:=beq_eq_false_iff_ne.2 h2;by_cases e:k=3
    ·subst e;have c:=q_ (show Ending.returned p = XW (YU 189 (QZ t)) from by rw[<-a.o];rfl);clear a;go_enter Tryz.func128,Tryz.ntmps128
     go_wp2_with fail;go_ret;exact⟨c.o.symm,(XV _ _).alloc (XJ _) _⟩
    ·have z:((k:Int)==3)=false:=beq_eq_false_iff_ne.2 e;by_cases f:k=4
     ·subst f;have c:=q_ (show Ending.returned p = XW (YU 234 (QZ t)) from by rw[<-a.o];rfl);clear a;go_enter Tryz.func128,Tryz.ntmps128
      go_wp2_with fail;go_ret;exact⟨c.o.symm,(XV _ _).alloc (XJ _) _⟩
     ·have B:((k:Int)==4)=false:=beq_eq_false_iff_ne.2 f;by_cases j:k=8
      ·subst j;have c:=q_ (show Ending.returned p = XW (YU 234 (QZ t)) from by rw[<-a.o];rfl);clear a;go_enter Tryz.func128,Tryz.ntmps128
       go_wp2_with fail;go_ret;exact⟨c.o.symm,(XV _ _).alloc (XJ _) _⟩
      ·have G:((k:Int)==8)=false:=beq_eq_false_iff_ne.2 j;by_cases m:k=9
       ·subst m;have c:=q_ (show Ending.returned p = XW (YU 234 (QZ t)) from by rw[<-a.o];rfl);clear a;go_enter Tryz.func128,Tryz.ntmps128
        go_wp2_with fail;go_ret;exact⟨c.o.symm,(XV _ _).alloc (XJ _) _⟩
       ·have I:((k:Int)==9)=false:=beq_eq_false_iff_ne.2 m;by_cases g:k=5
        ·subst g;have c:=q_ (show Ending.returned p = XW (YU 191 (s)) from by rw[<-a.o];rfl);clear a;go_enter Tryz.func128,Tryz.ntmps128
         go_wp2_with fail;go_ret;exact⟨c.o.symm,(XV _ _).alloc (XJ _) _⟩
        ·have C:((k:Int)==5)=false:=beq_eq_false_iff_ne.2 g;by_cases h:k=6
         ·subst h;have c:=q_ (show Ending.returned p = XW (YU 193 (QK QU n)) from by rw[<-a.o];rfl);clear a;go_enter Tryz.func128,Tryz.ntmps128
          go_wp2_with fail;go_ret;exact⟨c.o.symm,(XV _ _).alloc (XJ _) _⟩
         ·have D:((k:Int)==6)=false:=beq_eq_false_iff_ne.2 h;by_cases i:k=7
          ·subst i;have c:=q_ (show Ending.returned p = XW (YU 193 (QK QU n)) from by rw[<-a.o];rfl);clear a;go_enter Tryz.func128,Tryz.ntmps128
           go_wp2_with fail;go_ret;exact⟨c.o.symm,(XV _ _).alloc (XJ _) _⟩
          ·have E:((k:Int)==7)=false:=beq_eq_false_iff_ne.2 i;by_cases d:k=10
           ·subst d;have c:=q_ (show Ending.returned p = XW (YU 237 (.agg #[QZ t,QZ x])) from by rw[<-a.o];rfl);clear a;go_enter Tryz.func128,Tryz.ntmps128
            go_wp2_with fail;go_ret;exact⟨c.o.symm,(XV _ _).alloc (XJ _) _⟩
           ·have q:((k:Int)==10)=false:=beq_eq_false_iff_ne.2 d;have c:=q_ (show Ending.returned p = XW (YU 238 (QK QU k)) from by rw[<-a.o];simp only[h0,h1,h2,e,f,j,m,g,h,i,d,if_false]);clear a;go_enter Tryz.func128,Tryz.ntmps128
            go_wp2_with fail;go_ret;exact⟨c.o.symm,(XV _ _).alloc (XJ _) _⟩
def aw_ (k:Int) (b:Bool) (n:Int) (t x:ByteArray) (l:List g_) (a:Bool) (c:Int) (d e:ByteArray):Bool:=
 (b==a)&&(decide (n=c)&&(decide (t=d)&&(decide (x=e)&&(decide (l.length=0) || decide (k=5)))))
mutual
def z_:g_->Nat->Bool
 | .mk k b n t x l,d=>
  if k=0 then aw_ k b n t x l false 0 ⟨#[]⟩ ⟨#[]⟩
  else if k=1 then aw_ k b n t x l b 0 ⟨#[]⟩ ⟨#[]⟩
  else if k=2 then aw_ k b n t x l false n ⟨#[]⟩ ⟨#[]⟩
  else if k=3 then bl_ t&&aw_ k b n t x l false 0 t ⟨#[]⟩
  else if k=4 then decide (t.size<=1048576)&&aw_ k b n t x l false 0 t ⟨#[]⟩
  else if k=8 then dw_ t&&aw_ k b n t x l false 0 t ⟨#[]⟩
  else if k=9 then dx_ t&&aw_ k b n t x l false 0 t ⟨#[]⟩
  else if k=5 then decide (l.length<=4096)&&(decide (d<60)&&(gv_ l (d+1)&&aw_ k b n t x l false 0 ⟨#[]⟩ ⟨#[]⟩))
  else if k=6 then decide (0<=n)&&aw_ k b n t x l false n ⟨#[]⟩ ⟨#[]⟩
  else if k=7 then decide (0<=n)&&aw_ k b n t x l false n ⟨#[]⟩ ⟨#[]⟩
  else if k=10 then decide (t.size<=1048576)&&(dw_ x&&aw_ k b n t x l false 0 t x)
  else false
def gv_:List g_->Nat->Bool
 | [],_=>true
 | v::r,d=>z_ v d&&gv_ r d
end
theorem ir_ (l:List g_) (d:Nat):gv_ l d=l.all λv=>z_ v d:=by
 induction l with
 | nil=>simp[gv_]
 | cons v r a=>simp[gv_,a]
theorem F5_ (d:Nat) (y:d<60) (ca:Addr) (v:g_) (s:XZ) (r:Bool) (w:QV) (h:w.cell? ca=QJ (QK QU (d:Int))) (j:ca.block<w.heap.size)
    (f:∀W:QV,XU w.heap.size w W->Calls QW 117 #[.agg (c_ v s),QK QU ((d+1:Nat):Int)] W (p_ r W)) :
    Calls QW 189 #[.agg (c_ v s),YX (QJ ca)] w (p_ (!r) w):=by
 have a:=q_ f;clear f;have i:=q_ (λo:Obj=>show (w.alloc o).cell? ca=QJ (QK QU (d:Int)) from (((XV w.heap.size w).alloc (XJ _) o).cell (p:=ca) j).trans h);unfold c_ at a ⊢
 cases v with
 | mk k b n t x l=>
 simp only[g_.kind,g_.truth,g_.num,g_.text,g_.extra]at a ⊢;have q:=i.o (XX #[QK QU k,XK b,QK QU n,QZ t,QZ x,s] 39);obtain⟨g,c⟩:=a_ (d+1);rw[c.o]at a;have z:IntKind.i64.wrap ((d:Int)+1)=(g:Int):=by rw[IntWalk.i64_in _ (by omega),<-c.o];push_cast;rfl
 have w2:(d:Int)+1=(g:Int):=by rw[<-c.o];push_cast;rfl
 clear h;go_enter Tryz.func189,Tryz.ntmps189
 go_wp2_with fail;refine (a.o _ ((XV _ _).alloc (XJ _) _)).mono ?_;rintro e B ⟨rfl,hb⟩
 have m:=q_ (((XV w.heap.size w).alloc (XJ _) (XX #[QK QU k,XK b,QK QU n,QZ t,QZ x,s] 39)).trans (hb.mono (by simp)));clear hb;go_wp2_with fail;go_ret;exact⟨rfl,m.o⟩
def Mb_ (l:List g_) (d:Nat) (w:QV) (e:Ending) (w':QV):Prop:=∃r:Int,e = XW (QK QU r)/\(decide (0<=r) = !gv_ l d)/\XU w.heap.size w w'
theorem K1_ (l:List g_) (d:Nat) (hd:d<60) (ca:Addr) (F:Nat->Prop) (A:Option Addr) (n N:Nat) (w:QV) (O:∀g,F g->g<w.heap.size) (I:LRd w F l A n) (hn:n<=4096)
    (S:w.cell? ca=QJ (QK QU (d:Int))) (y:ca.block<w.heap.size)
    (z:∀(x:g_) (_:x∈l) (u:XZ) (W:QV),XU w.heap.size w W->VRd W F x u->Calls QW 117 #[u,QK QU ((d+1:Nat):Int)] W (p_ (z_ x (d+1)) W)) :
    Calls QW 256 #[QQ A n N,.func (.func 189) #[] #[YX (QJ ca)]] w (Mb_ l (d+1) w):=by
 have Z:=q_ I;have M:=q_ O;have L:=q_ z;have Y:=q_ S;have D:=q_ I.1;clear I O z S;go_enter Tryz.func256,Tryz.ntmps256
 go_wp2_with fail;go_loopw [8] (λJ wr=>∃k:Nat,k<=n/\J = QK QU (k:Nat)/\Q_ (((l.take k).all λv=>z_ v (d+1))=true)/\Q_ (XU w.heap.size w wr)) (λJ _=>n-(intOf J).toNat)
 case atStart=>exact⟨0,by omega,rfl,q_ (by simp),q_ (XV _ _)⟩
 case round=>
  obtain⟨k,hk,rfl,f,a⟩:=hrel;by_cases T:k<n
  ·obtain⟨x,m⟩:∃x,l[k]?=QJ x:=⟨l[k]'(by rw[<-D.o];exact T),XQ _⟩;have HR:=q_ (Z.o.under a.o M.o);obtain⟨ad,s,rfl,P,⟨B,G,rfl,X,U⟩,V,c0,c1,c2,c3,c4,c5⟩:=HR.o.cellsAt m;have HX:=q_ m;have j:=q_ (YQ m)
   have i:=q_ (F5_ d hd ca x (QQ B x.list.length G) (z_ x (d+1)) wr ((a.o.cell (p:=ca) y).trans Y.o) (XY y a.o.size)
    (λW R=>L.o x j.o _ W (a.o.trans (R.mono a.o.size)) (V.under R (λg hg=>XY (M.o g hg) a.o.size))))
   have b:=q_ (λ(h:z_ x (d+1)=true)=>show ((l.take (k+1)).all λv=>z_ v (d+1))=true from by rw[f_ HX.o,List.all_append,f.o];simp[h]);have c:=q_ (λ(h:z_ x (d+1)=false)=>show gv_ l (d+1)=false from by rw[ir_,List.all_eq_false];exact⟨x,j.o,by simp[h]⟩);obtain⟨r,Hr⟩:=a_ (z_ x (d+1));rw[Hr.o]at i b c;unfold c_ at i;have e1:(0:Int)<=k:=by omega
   have e2:(k:Int)<n:=by omega
   clear m U V P;go_wp2_with fail;refine i.o.mono ?_;rintro e w2 ⟨rfl,t⟩;have q:=q_ (a.o.trans (t.mono a.o.size));clear t
   cases r with
   | true=>
    have HM:=q_ (b.o rfl);have w1:IntKind.i64.wrap ((k:Int)+1)=(k:Int)+1:=IntWalk.i64_in _ (by omega);go_wp2_with fail;go_roundw
    case rel=>exact⟨k+1,by omega,by go_num,HM,q⟩
    case measure=>simp[intOf];omega
   | false=>
    have E:=q_ (c.o rfl);go_wp2_with fail;go_ret;exact⟨(k:Int),rfl,by rw[E.o];simp,q.o⟩
  ·have C:k=n:=by omega
   have E:=q_ (show gv_ l (d+1)=true from by have:=f.o;rw[List.take_of_length_le (by rw[C,D.o];exact XJ _)]at this;rw[ir_];exact this);subst C;go_wp2_with fail;go_ret;exact⟨-1,rfl,by rw[E.o];simp,a.o⟩
theorem Gd_ (l:List g_) (d:Nat) (f:XZ) (A:Option Addr) (n a:Nat) (w:QV)
    (hi:Calls QW 256 #[QQ A n a,f] w (Mb_ l d w)) :
    Calls QW 188 #[QQ A n a,f] w (p_ (!gv_ l d) w):=by
 have g:=q_ hi;clear hi;go_enter Tryz.func188,Tryz.ntmps188
 go_wp2_with fail;refine g.o.mono ?_;rintro e i ⟨r,rfl,b,hb⟩;have h:=q_ b;have c:=q_ hb;clear b hb;go_wp2_with fail;go_ret;exact⟨by rw[<-h.o];rfl,c.o⟩
end
end Go.Proofs.YtefhfadjajcmkaaGreatDoor
