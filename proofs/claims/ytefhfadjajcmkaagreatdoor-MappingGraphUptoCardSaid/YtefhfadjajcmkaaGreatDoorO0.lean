/- May a value be: checked, and what it calls. -/
import Derived.Test.YtefhfadjajcmkaaGreatDoorOzz
import Derived.Test.YtefhfadjajcmkaaGreatDoorR0
import Derived.Test.YtefhfadjajcmkaaGreatDoorProg
import Derived.WalkKit
import Derived.WalkSpells
import Derived.Lib.Hide
import Derived.Deep.QuietTactic
import Derived.BigQuiet
import Derived.IntWalk
import Derived.Outline
import Derived.StillTailTactics
import Derived.Deep.DeepCutAuto
import Derived.Test.YtefhfadjajcmkaaGreatDoorL0
import Derived.WalkLawsBesides
import Derived.OwnWalk
import Derived.Deep.AppendLies
import Derived.Maps.OwnSet
import Derived.Laws.IdiomStrings
import Derived.Lib.BufferRead
import Derived.Deep.RegionLaw
import Derived.Test.YtefhfadjajcmkaaGreatDoorShelf
import Derived.Deep.RegionHeld3
set_option linter.unusedVariables false
set_option linter.unusedSimpArgs false
set_option maxRecDepth 100000
set_option maxHeartbeats 64000000
namespace Go.Proofs.YtefhfadjajcmkaaGreatDoor
open _root_.Go.Proofs.Tryz
open Bool renaming and_eq_true→YW
open Go.IntWalk renaming i64_in→YU
open Go.Ending renaming returned→YQ
open Go.RowKit renaming Below→XW
open Go.RowKit.Below renaming refl→XV
open Nat renaming lt_of_lt_of_le→XZ,le_refl→XK,le_trans→ZX,zero_add→VQ,lt_or_ge→VZ
open Go.Obj renaming cells→XX
open List renaming getElem?_eq_getElem→XQ,mem_of_getElem?→YZ,take_of_length_le→YJ,length_append→ZZ,getElem?_eq_none→ZK,length_take→UJ,eq_nil_of_length_eq_zero→UK,append_assoc→UW,mem_cons_self→VJ
open _root_.Go.Proofs.Tryz renaming prog→QW
open Go renaming World→QV,Value→XJ,heap_alloc_new→XU,bodyPost_ret→ZV,run_string_add_sum→UV
open Go.IntKind renaming i64→QU
open Option renaming some→QJ,none→QK
open Go.Lib renaming cell_of_heap→QX,frozen_of_heap→YY
open Go.Value renaming slice→QQ,string→QZ,int→QY,bool→XY,pointer→YK,tuple→ZJ,iface→UX
open Go.Lib (cell_of_heap)
section
open Go Go.RowKit
inductive g_ where
 | mk (kind:Int) (truth:Bool) (num:Int) (text extra:ByteArray) (list:List g_):g_
namespace g_
def kind:g_->Int | mk k _ _ _ _ _=>k
def truth:g_->Bool | mk _ b _ _ _ _=>b
def num:g_->Int | mk _ _ n _ _ _=>n
def text:g_->ByteArray | mk _ _ _ t _ _=>t
def extra:g_->ByteArray | mk _ _ _ _ x _=>x
def list:g_->List g_ | mk _ _ _ _ _ l=>l
end g_
mutual
def S_:g_->Nat
 | .mk _ _ _ t x l=>1+t.size / 64+x.size / 64+V_ l
def V_:List g_->Nat
 | []=>0
 | v::r=>S_ v+V_ r
end
theorem dv_ (v:g_):V_ v.list<S_ v:=by cases v;simp only[S_,g_.list];omega
theorem el_ {l:List g_} {v:g_} (h:v∈l):S_ v<=V_ l:=by
 induction l with
 | nil=>cases h
 | cons a r b=>
  simp only[V_];rcases List.mem_cons.1 h with rfl | h
  ·omega
  ·have:=b h;omega
theorem mi_ (a b:List g_):V_ (a++b)=V_ a+V_ b:=by
 induction a with
 | nil=>simp[V_]
 | cons v r c=>simp only[List.cons_append,V_,c];omega
theorem A5_ (l:List g_) (k:Nat):V_ (l.take k)<=V_ l:=by have:=mi_ (l.take k) (l.drop k);rw[List.take_append_drop]at this;omega
def c_ (v:g_) (s:XJ):Array XJ:=#[QY QU v.kind,XY v.truth,QY QU v.num,QZ v.text,QZ v.extra,s]
inductive VRd (w:QV) (F:Nat->Prop):g_->XJ->Prop where
 | mk (v:g_) (A:Option Addr) (cap:Nat) (ad:Addr) (cs:Nat->Array XJ) (hcap:v.list.length<=cap) (hA:0<v.list.length->A=QJ ad/\F ad.block)
     (hc:∀i,i<v.list.length->(cs i).size=6/\∀j,j<6->w.cell? (ad.add (i*6+j))=(cs i)[j]?)
     (hr:∀i x,v.list[i]?=QJ x->VRd w F x (.agg (cs i))):VRd w F v (.agg (c_ v (QQ A v.list.length cap)))
def LRd (w:QV) (F:Nat->Prop) (l:List g_) (A:Option Addr) (n:Nat):Prop:=
 n=l.length/\(0<n->∃ad,A=QJ ad/\F ad.block/\∀i x,l[i]?=QJ x->∃c:Array XJ,c.size=6/\(∀j,j<6->w.cell? (ad.add (i*6+j))=c[j]?)/\VRd w F x (.agg c))
section
variable {w w':QV} {F F':Nat->Prop} {v:g_} {u:XJ}
theorem VRd.inv (h:VRd w F v u):∃A a,u = .agg (c_ v (QQ A v.list.length a))/\v.list.length<=a/\LRd w F v.list A v.list.length:=by
 cases h with
 | mk _ A a ad cs b d e g=>
  refine⟨A,a,rfl,b,rfl,λf=>⟨ad,(d f).1,(d f).2,λi x c=>?_⟩⟩
  have hi:i<v.list.length:=by
   rcases VZ i v.list.length with h | h
   ·exact h
   ·rw[ZK h]at c;cases c
  exact⟨cs i,(e i hi).1,(e i hi).2,g i x c⟩
theorem VRd.of_list {A:Option Addr} {b:Nat} (e:v.list.length<=b) (h:LRd w F v.list A v.list.length):VRd w F v (.agg (c_ v (QQ A v.list.length b))):=by
 by_cases f:0<v.list.length
 ·obtain⟨ad,k,m,o⟩:=h.2 f
  have d:∀i,∃c:Array XJ,i<v.list.length->c.size=6/\(∀j,j<6->w.cell? (ad.add (i*6+j))=c[j]?)/\∀x,v.list[i]?=QJ x->VRd w F x (.agg c):=λi=>by
   by_cases hi:i<v.list.length
   ·obtain⟨c,h1,h2,g⟩:=o i _ (XQ hi)
    exact⟨c,λ_=>⟨h1,h2,λx a=>by
     rw[XQ hi]at a;injection a with a;subst a;exact g⟩⟩
   ·exact⟨#[],λh=>absurd h hi⟩
  refine .mk v A b ad (λi=>(d i).choose) e (λ_=>⟨k,m⟩) (λi hi=>⟨((d i).choose_spec hi).1,((d i).choose_spec hi).2.1⟩) λi x a=>?_
  have hi:i<v.list.length:=by
   rcases VZ i v.list.length with h | h
   ·exact h
   ·rw[ZK h]at a;cases a
  exact ((d i).choose_spec hi).2.2 x a
 ·exact .mk v A b ⟨0,0,QK⟩ (λ_=>#[]) e (λh=>absurd h f) (λi hi=>absurd hi (by omega)) (λi x a=>by
    rw[ZK (by omega)]at a;cases a)
theorem VRd.keep (h:VRd w F v u) (f:∀p:Addr,F p.block->w'.cell? p=w.cell? p):VRd w' F v u:=by
 induction h with
 | mk v A b ad cs a c d k g=>
  exact .mk v A b ad cs a c (λi hi=>⟨(d i hi).1,λj e=>(f _ (by rw[block_of_add];exact (c (by omega)).2)).trans ((d i hi).2 j e)⟩) g
theorem VRd.mono (h:VRd w F v u) (d:∀g,F g->F' g):VRd w F' v u:=by
 induction h with
 | mk v A b ad cs a c e i f=>exact .mk v A b ad cs a (λh=>⟨(c h).1,d _ (c h).2⟩) e f
variable {l:List g_} {A:Option Addr} {n:Nat}
theorem LRd.keep (h:LRd w F l A n) (b:∀p:Addr,F p.block->w'.cell? p=w.cell? p):LRd w' F l A n:=
 ⟨h.1,λk=>by
  obtain⟨ad,e,a,f⟩:=h.2 k;refine⟨ad,e,a,λi x m=>?_⟩;obtain⟨c,h1,h2,d⟩:=f i x m;exact⟨c,h1,λj g=>(b _ (by rw[block_of_add];exact a)).trans (h2 j g),d.keep b⟩⟩
theorem LRd.mono (h:LRd w F l A n) (a:∀g,F g->F' g):LRd w F' l A n:=
 ⟨h.1,λj=>by
  obtain⟨ad,e,f,d⟩:=h.2 j;refine⟨ad,e,a _ f,λi x k=>?_⟩;obtain⟨c,h1,h2,b⟩:=d i x k;exact⟨c,h1,h2,b.mono a⟩⟩
theorem LRd.nil (a:Nat) (b:a=0):LRd w F [] QK a:=⟨by simpa using b,λh=>absurd h (by omega)⟩
theorem LRd.drewN (h:LRd w F l A n) (m:Nat):LRd (w.drewN m) F l A n:=h.keep λ_ _=>rfl
theorem VRd.drewN (h:VRd w F v u) (m:Nat):VRd (w.drewN m) F v u:=h.keep λ_ _=>rfl
theorem LRd.under {B:Nat} (h:LRd w F l A n) (hb:XW B w w') (a:∀g,F g->g<B):LRd w' F l A n:=h.keep λ_ b=>hb.cell (a _ b)
theorem VRd.under {B:Nat} (h:VRd w F v u) (hb:XW B w w') (a:∀g,F g->g<B):VRd w' F v u:=h.keep λ_ b=>hb.cell (a _ b)
theorem LRd.at_ (h:LRd w F l A n) {i:Nat} {x:g_} (f:l[i]?=QJ x):∃ad s,A=QJ ad/\F ad.block/\(∃B a,s = QQ B x.list.length a/\x.list.length<=a/\LRd w F x.list B x.list.length)/\(∀j,j<6->w.cell? (ad.add (i*6+j))=(c_ x s)[j]?)/\VRd w F x (.agg (c_ x s)):=by
 have hi:i<l.length:=by
  rcases VZ i l.length with h | h
  ·exact h
  ·rw[ZK h]at f;cases f
 obtain⟨ad,e,k,m⟩:=h.2 (by rw[h.1];omega);obtain⟨c,_,h2,g⟩:=m i x f;obtain⟨B,a,d,b,o⟩:=g.inv;injection d with d;subst d;exact⟨ad,_,e,k,⟨B,a,rfl,b,o⟩,h2,g⟩
end
theorem a_ {b : Type} (a:b):∃x,Q_ (a=x):=⟨a,q_ rfl⟩
theorem f_ {a : Type} {l:List a} {k:Nat} {y:a} (h:l[k]?=QJ y):l.take (k+1)=l.take k++[y]:=by rw[List.take_add_one,h];rfl
theorem LRd.cellsAt {w:QV} {F:Nat->Prop} {l:List g_} {A:Option Addr} {n:Nat} (h:LRd w F l A n) {i:Nat} {x:g_} (p:l[i]?=QJ x) :
    ∃ad s,A=QJ ad/\F ad.block/\(∃B b,s = QQ B x.list.length b/\x.list.length<=b/\LRd w F x.list B x.list.length)/\VRd w F x (.agg (c_ x s)) /\
     w.cell? (ad.add (i*6))=QJ (QY QU x.kind)/\w.cell? ⟨(ad.add (i*6)).block,(ad.add (i*6)).off+1,QK⟩=QJ (XY x.truth)/\w.cell? ⟨(ad.add (i*6)).block,(ad.add (i*6)).off+2,QK⟩=QJ (QY QU x.num) /\
     w.cell? ⟨(ad.add (i*6)).block,(ad.add (i*6)).off+3,QK⟩=QJ (QZ x.text)/\w.cell? ⟨(ad.add (i*6)).block,(ad.add (i*6)).off+4,QK⟩=QJ (QZ x.extra)/\w.cell? ⟨(ad.add (i*6)).block,(ad.add (i*6)).off+5,QK⟩=QJ s:=by
 obtain⟨ad,s,e,k,m,a,o⟩:=h.at_ p;have j:=a 0 (by omega);have c:=a 1 (by omega);have d:=a 2 (by omega);have f:=a 3 (by omega);have c4:=a 4 (by omega);have g:=a 5 (by omega);rw[<-add_of_add]at c d f c4 g;exact⟨ad,s,e,k,m,o,j,c,d,f,c4,g⟩
theorem dc_ (l:List g_):l.length<=V_ l:=by
 induction l with
 | nil=>simp
 | cons v r a=>
  simp only[V_,List.length_cons];have:1<=S_ v:=by cases v;simp only[S_];omega
  omega
def Oi_ (n:Nat) (w:QV) (e:Ending) (w':QV):Prop:=e = YQ (QY QU (n:Int))/\∃m,w'=w.drewN m
open Classical in
noncomputable def cv_ (a b:g_):Bool:=decide (a=b)
open Classical in
noncomputable def i5_ (a b:List g_):Bool:=decide (a=b)
theorem kx_ (a:g_):cv_ a a=true:=by unfold cv_;simp
theorem cw_ {a b:g_} (h:a≠b):cv_ a b=false:=by unfold cv_;simp[h]
theorem yl_ {a b:List g_} (h:a≠b):i5_ a b=false:=by unfold i5_;simp[h]
theorem A2_ (a:List g_):i5_ a a=true:=by unfold i5_;simp
theorem br_ {a b:ByteArray} (h:a≠b):(a.toList==b.toList)=false:=by rw[ByteArray.toList_eq,ByteArray.toList_eq];exact bN_.2 λe=>h (ByteArray.ext (Array.toList_inj.1 e))
def n_ (b:Bool) (w:QV) (e:Ending) (w':QV):Prop:=e = YQ (XY b)/\XW w.heap.size w w'
theorem E_ {a b:Bool} {w w':QV} (h:a=b) (hb:XW w.heap.size w w'):n_ b w (YQ (XY a)) w':=⟨by rw[h],hb⟩
theorem F_ (w:QV) (a b:Obj):XW w.heap.size w ((w.alloc a).alloc b):=(((XV _ _).alloc (XK _) _).alloc (by simp) _)
theorem nu_ (a b:g_) {F G:Nat->Prop} (A B:Option Addr) (ca cb:Nat) (w:QV) (T:∀g,F g->g<w.heap.size) (U:∀g,G g->g<w.heap.size)
    (R:LRd w F a.list A a.list.length) (S:LRd w G b.list B b.list.length)
    (C:∀w',LRd w' F a.list A a.list.length->LRd w' G b.list B b.list.length->(∀g,F g->g<w'.heap.size)->(∀g,G g->g<w'.heap.size)->Calls QW 64 #[QQ A a.list.length ca,QQ B b.list.length cb] w' (n_ (i5_ a.list b.list) w')) :
    Calls QW 22 #[.agg (c_ a (QQ A a.list.length ca)),.agg (c_ b (QQ B b.list.length cb))] w (n_ (cv_ a b) w):=by
 have h:=q_ C;have y:=q_ R;have z:=q_ S;have O:=q_ T;have P:=q_ U;clear C R S T U;obtain⟨k,t,n,s,x,l⟩:=a;obtain⟨L,D,m,r,j,i⟩:=b;unfold c_;simp only[g_.kind,g_.truth,g_.num,g_.text,g_.extra,g_.list]at h y z ⊢;obtain⟨p,X⟩:=a_ l.length;obtain⟨q,Y⟩:=a_ i.length;rw[X.o]at h y ⊢;rw[Y.o]at h z ⊢;have f:=q_ (F_ w (XX #[QY QU k,XY t,QY QU n,QZ s,QZ x,QQ A p ca] 39) (XX #[QY QU L,XY D,QY QU m,QZ r,QZ j,QQ B q cb] 39));by_cases h1:k=L
 ·subst h1;by_cases h2:t=D
  ·subst h2;by_cases E:n=m
   ·subst E;by_cases I:s=r
    ·subst I;by_cases J:x=j
     ·subst J;have hb:i5_ l i=cv_ (.mk k t n s x l) (.mk k t n s x i):=by unfold i5_ cv_;simp
      have N:=q_ hb;have W:=q_ (h.o _ (y.o.under f.o O.o) (z.o.under f.o P.o) (λg M=>by have:=O.o g M;have:=f.o.size;omega) (λg M=>by have:=P.o g M;have:=f.o.size;omega));clear hb;go_enter func22,ntmps22
      go_wp2_with fail;refine W.o.mono ?_;rintro e w5 ⟨rfl,V⟩;rw[N.o];go_wp2_with fail;go_ret;exact E_ rfl (f.o.trans (V.mono f.o.size))
     ·have t5:=br_ J;have c:=cw_ (a:=.mk k t n s x l) (b:=.mk k t n s j i) (by simp[J]);have d:=q_ c;clear c J;go_enter func22,ntmps22
      go_wp2_with fail;go_ret;exact E_ d.o.symm f.o
    ·have t4:=br_ I;have c:=cw_ (a:=.mk k t n s x l) (b:=.mk k t n r j i) (by simp[I]);have d:=q_ c;clear c I;go_enter func22,ntmps22
     go_wp2_with fail;go_ret;exact E_ d.o.symm f.o
   ·have t3:(n==m)=false:=by simpa using E
    have c:=cw_ (a:=.mk k t n s x l) (b:=.mk k t m r j i) (by simp[E]);have d:=q_ c;clear c E;go_enter func22,ntmps22
    go_wp2_with fail;go_ret;exact E_ d.o.symm f.o
  ·have t2:(t==D)=false:=by simpa using h2
   have c:=cw_ (a:=.mk k t n s x l) (b:=.mk k D m r j i) (by simp[h2]);have d:=q_ c;clear c h2;go_enter func22,ntmps22
   go_wp2_with fail;go_ret;exact E_ d.o.symm f.o
 ·have Z:(k==L)=false:=by simpa using h1
  have c:=cw_ (a:=.mk k t n s x l) (b:=.mk L D m r j i) (by simp[h1]);have d:=q_ c;clear c h1;go_enter func22,ntmps22
  go_wp2_with fail;go_ret;exact E_ d.o.symm f.o
theorem yz_ {a : Type} {l m:List a} {k:Nat} (h:l.take k=m.take k) (h1:l.length<=k) (h2:m.length<=k):l=m:=by rw[YJ h1,YJ h2]at h;exact h
theorem Cg_ (N:Nat):∀(l m:List g_) (_:V_ l<N) (F G:Nat->Prop) (A B:Option Addr) (b q ca cb:Nat) (w:QV) (_:V_ l<=1000000000000) (_:∀g,F g->g<w.heap.size) (_:∀g,G g->g<w.heap.size) (_:LRd w F l A b) (_:LRd w G m B q),
    Calls QW 64 #[QQ A b ca,QQ B q cb] w (n_ (i5_ l m) w):=by
 induction N with
 | zero=>exact λ_ _ h=>absurd h (Nat.not_lt_zero _)
 | succ N ih=>
  intro l m hN F G A B b q ca cb w p hF hG R S;have HL:=q_ R;have HM:=q_ S;have X:=q_ hF;have Y:=q_ hG;have IH:=q_ ih;have f:b=l.length:=R.1;have aa:b<=1000000000000:=by have:=dc_ l;omega
  have i:q=m.length:=S.1;have C:=q_ f;have D:=q_ i;clear R S hF hG ih;by_cases J:b=q
  ·subst J;clear f i;go_enter func64,ntmps64
   go_wp2_with fail;go_loopw [5] (λU wr=>∃k:Nat,k<=b/\U = QY QU (k:Nat)/\Q_ (l.take k=m.take k)/\XW w.heap.size w wr) (λU _=>b-(intOf U).toNat)
   case atStart=>exact⟨0,by omega,rfl,q_ (by simp),XV _ _⟩
   case round=>
    obtain⟨k,hk,rfl,O,c⟩:=hrel;have r:=q_ c;have Z:=q_ (HL.o.under c X.o);have a3:=q_ (HM.o.under c Y.o);have j:w.heap.size<=wr.heap.size:=c.size;clear c;by_cases a9:k<b
    ·obtain⟨x,z⟩:∃x,l[k]?=QJ x:=⟨l[k]'(by have:=C.o;omega),XQ _⟩;obtain⟨y,T⟩:∃y,m[k]?=QJ y:=⟨m[k]'(by have:=D.o;omega),XQ _⟩;have a8:=el_ (YZ z);have a7:=dv_ x;obtain⟨ad,sx,rfl,_,⟨V,cx,rfl,_,E⟩,_,c0,c1,c2,c3,c4,c5⟩:=Z.o.cellsAt z;obtain⟨ae,sy,rfl,_,⟨W,cy,rfl,_,I⟩,_,d0,d1,d2,d3,d4,d5⟩:=a3.o.cellsAt T
     have a:=q_ (nu_ x y V W cx cy wr.drew (F:=F) (G:=G) (λg P=>XZ (X.o g P) j) (λg P=>XZ (Y.o g P) j) (E.keep λ_ _=>rfl) (I.keep λ_ _=>rfl)
      (λw' h1 h2 h3 h4=>IH.o x.list y.list (by omega) F G V W _ _ cx cy w' (by omega) h3 h4 h1 h2))
     have HX:=q_ z;have HY:=q_ T;have e1:(0:Int)<=k:=by omega
     have e2:(k:Int)<b:=by omega
     clear z T a8 a7 E I;unfold c_ at a;obtain⟨lx,a1⟩:=a_ x.list.length;obtain⟨ly,a2⟩:=a_ y.list.length;rw[a1.o]at c5 a;rw[a2.o]at d5 a;by_cases t:x=y
     ·have p:=kx_ x;subst t;rw[p]at a;clear p;go_wp2_with fail;go_still_tail 8,(by kernel_rfl)
      change wpList _ _ _ _ _ (World.drew _);go_wp2_with fail;refine a.o.mono ?_;rintro e w5 ⟨rfl,s⟩;go_wp2_with fail;go_roundw
      case rel=>exact⟨k+1,by omega,by go_num,q_ (by rw[f_ HX.o,f_ HY.o,O.o]),r.o.drew.trans (s.mono j)⟩
      case measure=>simp[intOf];omega
     ·have p:=cw_ t;have d:i5_ l m=false:=yl_ (λe=>t (by have h1:=HX.o;rw[e,HY.o]at h1;exact (Option.some.inj h1).symm));have a0:=q_ d;rw[p]at a;clear p d;go_wp2_with fail;go_still_tail 8,(by kernel_rfl)
      change wpList _ _ _ _ _ (World.drew _);go_wp2_with fail;refine a.o.mono ?_;rintro e w5 ⟨rfl,s⟩;go_wp2_with fail;go_ret;exact E_ a0.o.symm (r.o.drew.trans (s.mono j))
    ·have a6:k=b:=by omega
     subst a6;have d:l=m:=yz_ O.o (by have:=C.o;omega) (by have:=D.o;omega);have M:i5_ l m=true:=by rw[d];exact A2_ m
     have a5:=q_ M;clear d M;go_wp2_with fail;go_ret;exact E_ a5.o.symm r.o
  ·have L:i5_ l m=false:=yl_ (λe=>J (by rw[f,i,e]));have a4:=q_ L;have t1:((b:Int) != q)=true:=by simp;omega
   clear L f i;go_enter func64,ntmps64
   go_wp2_with fail;go_ret;exact E_ a4.o.symm (XV _ _)
def iq_ (c:UInt8):Bool:=decide (c.toNat<=32\/c.toNat=60\/c.toNat=62)
def d5_ (s:ByteArray):Bool:=decide (1<=s.size/\s.size<=1048576)&&s.data.toList.all λc=>!iq_ c
theorem al_ (s:ByteArray):s.data.toList.length=s.size:=Array.length_toList
theorem ep_ (s:ByteArray) (k:Nat) (h:k<s.size):s.data.toList[k]?=QJ s[k]:=by rw[XQ (by rw[al_];exact h)];rfl
theorem ih_ {p:UInt8->Bool} {l:List UInt8} {k:Nat} {c:UInt8} (h:l[k]?=QJ c) (a:(l.take k).all p=true) (b:p c=true):(l.take (k+1)).all p=true:=by rw[f_ h,List.all_append,a];simp[b]
theorem kc_ {p:UInt8->Bool} {l:List UInt8} {k:Nat} {c:UInt8} (h:l[k]?=QJ c) (a:p c=false):l.all p=false:=by rw[List.all_eq_false];exact⟨c,YZ h,by simp[a]⟩
theorem p_ {a b:Bool} (h:a=b):Ending.returned (XY a) = YQ (XY b):=by rw[h]
theorem q4_ (s:ByteArray) (w:QV):Calls QW 191 #[QZ s] w λe w'=>e = YQ (XY (d5_ s))/\w'=w:=by
 by_cases z:1<=s.size/\s.size<=1048576
 ·obtain⟨I,J⟩:=z;have h1:decide ((s.size:Int)<1)=false:=dF_ (by omega);have h2:decide ((1048576:Int)<s.size)=false:=dF_ (by omega);go_enter func191,ntmps191
  go_wp2_with fail;go_loop [3] (λi=>∃k:Nat,k<=s.size/\i = QY QU (k:Nat)/\Q_ ((s.data.toList.take k).all (λc=>!iq_ c)=true)) (λi=>s.size-(intOf i).toNat)
  case atStart=>exact⟨0,by omega,rfl,q_ (by simp)⟩
  case round=>
   obtain⟨k,M,rfl,d⟩:=hrel;by_cases B:k<s.size
   ·have g:=q_ (ep_ s k B);obtain⟨x,C⟩:∃x:Nat,s[k].toNat=x:=⟨_,rfl⟩;have f:=q_ C;have L:x<256:=by rw[<-C];exact s[k].toNat_lt
    by_cases D:x<=32
    ·have a:=q_ (kc_ (p:=λc=>!iq_ c) g.o (by simp[iq_,f.o,D]));have q:(x:Int)<=32:=by omega
     go_wp2_with fail;go_ret;exact⟨p_ (by unfold d5_;rw[a.o];simp),rfl⟩
    ·have q:decide ((x:Int)<=32)=false:=dF_ (by omega);by_cases E:x=60
     ·have a:=q_ (kc_ (p:=λc=>!iq_ c) g.o (by simp[iq_,f.o,E]));have r:((x:Int)==60)=true:=by simp;omega
      go_wp2_with fail;go_ret;exact⟨p_ (by unfold d5_;rw[a.o];simp),rfl⟩
     ·have r:((x:Int)==60)=false:=by simp;omega
      by_cases G:x=62
      ·have a:=q_ (kc_ (p:=λc=>!iq_ c) g.o (by simp[iq_,f.o,G]));have t:((x:Int)==62)=true:=by simp;omega
       go_wp2_with fail;go_ret;exact⟨p_ (by unfold d5_;rw[a.o];simp),rfl⟩
      ·have t:((x:Int)==62)=false:=by simp;omega
       have m:=q_ (ih_ g.o d.o (by simp[iq_,f.o];omega));go_wp2_with fail;go_round
       case rel=>exact⟨k+1,by omega,by go_num,q_ m.o⟩
       case measure=>simp[intOf];omega
   ·have y:k=s.size:=by omega
    have b:=d.o;rw[YJ (by rw[al_];omega)]at b;have j:=q_ b;clear d b;subst y;go_wp2_with fail;go_ret;exact⟨p_ (by unfold d5_;rw[j.o];simp;omega),rfl⟩
 ·have a:d5_ s=false:=by unfold d5_;simp only[dF_ z];rfl
  have h:=q_ a;clear a;by_cases h0:s.size<1
  ·have h1:decide ((s.size:Int)<1)=true:=dT_ (by omega);go_enter func191,ntmps191
   go_wp2_with fail;go_ret;exact⟨p_ h.o.symm,rfl⟩
  ·have h1:decide ((s.size:Int)<1)=false:=dF_ (by omega);have h2:decide ((1048576:Int)<s.size)=true:=dT_ (by omega);go_enter func191,ntmps191
   go_wp2_with fail;go_ret;exact⟨p_ h.o.symm,rfl⟩
theorem By_ (s:ByteArray) (J:s.size<=9223372036854775807) (w:QV):Calls QW 186 #[QZ s] w λe w'=>e = YQ (XY (d5_ s))/\w'=w:=by
 go_enter func186,ntmps186
 go_wp2_with fail;go_loop [6] (λi=>∃k:Nat,k<=s.size/\i = QY QU (k:Nat)/\Q_ ((s.data.toList.take k).all (λc=>!iq_ c)=true)) (λi=>s.size-(intOf i).toNat)
 case atStart=>exact⟨0,by omega,rfl,q_ (by simp)⟩
 case round=>
  obtain⟨k,I,rfl,f⟩:=hrel;by_cases y:k<s.size
  ·have h:=q_ (ep_ s k y);obtain⟨x,z⟩:∃x:Nat,s[k].toNat=x:=⟨_,rfl⟩;have g:=q_ z;have G:x<256:=by rw[<-z];exact s[k].toNat_lt
   by_cases B:x<=32
   ·have b:=q_ (kc_ (p:=λc=>!iq_ c) h.o (by simp[iq_,g.o,B]));have m:(x:Int)<=32:=by omega
    go_wp2_with fail;go_ret;exact⟨p_ (by unfold d5_;rw[b.o];simp),rfl⟩
   ·have m:decide ((x:Int)<=32)=false:=dF_ (by omega);by_cases C:x=60
    ·have b:=q_ (kc_ (p:=λc=>!iq_ c) h.o (by simp[iq_,g.o,C]));have q:((x:Int)==60)=true:=by simp;omega
     go_wp2_with fail;go_ret;exact⟨p_ (by unfold d5_;rw[b.o];simp),rfl⟩
    ·have q:((x:Int)==60)=false:=by simp;omega
     by_cases D:x=62
     ·have b:=q_ (kc_ (p:=λc=>!iq_ c) h.o (by simp[iq_,g.o,D]));have r:((x:Int)==62)=true:=by simp;omega
      go_wp2_with fail;go_ret;exact⟨p_ (by unfold d5_;rw[b.o];simp),rfl⟩
     ·have r:((x:Int)==62)=false:=by simp;omega
      have j:=q_ (ih_ h.o f.o (by simp[iq_,g.o];omega));go_wp2_with fail;go_round
      case rel=>exact⟨k+1,by omega,by go_num,q_ j.o⟩
      case measure=>simp[intOf];omega
  ·have t:k=s.size:=by omega
   have a:=f.o;rw[YJ (by rw[al_];omega)]at a;have d:=q_ a;clear f a;subst t;by_cases h0:1<=s.size
   ·have h1:decide ((1:Int)<=s.size)=true:=dT_ (by omega);by_cases h2:s.size<=1048576
    ·have E:decide ((s.size:Int)<=1048576)=true:=dT_ (by omega);go_wp2_with fail;go_ret;exact⟨p_ (by unfold d5_;rw[d.o];simp;omega),rfl⟩
    ·have E:decide ((s.size:Int)<=1048576)=false:=dF_ (by omega);go_wp2_with fail;go_ret;exact⟨p_ (by unfold d5_;rw[d.o];simp;omega),rfl⟩
   ·have h1:decide ((1:Int)<=s.size)=false:=dF_ (by omega);go_wp2_with fail;go_ret;exact⟨p_ (by unfold d5_;rw[d.o];simp;omega),rfl⟩
def fb_ (x:Nat):Bool:=decide ((97<=x/\x<=122)\/(65<=x/\x<=90)\/x=95)
def b3_ (x:Nat):Bool:=decide (48<=x/\x<=57)
def g6_ (c:UInt8):Bool:=fb_ c.toNat || b3_ c.toNat
def d8_ (s:ByteArray):Bool:=decide (1<=s.size/\s.size<=64)&&((s.data.toList.head?.map λc=>!b3_ c.toNat).getD false&&s.data.toList.all g6_)
theorem jg_ {s:ByteArray} (h:0<s.size):s.data.toList.head?=QJ (s[0]' h):=by have:=ep_ s 0 h;rw[List.head?_eq_getElem?];exact this
theorem nk_ {s:ByteArray} (h:¬(1<=s.size/\s.size<=64)):d8_ s=false:=by unfold d8_;simp only[dF_ h];rfl
theorem B4_ {s:ByteArray} {k:Nat} {c:UInt8} (h:s.data.toList[k]?=QJ c) (a:g6_ c=false):d8_ s=false:=by unfold d8_;rw[kc_ h a];simp
theorem xt_ {s:ByteArray} {c:UInt8} (h:s.data.toList[0]?=QJ c) (a:b3_ c.toNat=true):d8_ s=false:=by unfold d8_;rw[List.head?_eq_getElem?,h];simp[a]
theorem xu_ {s:ByteArray} (h1:1<=s.size) (h2:s.size<=64) (h0:∀c,s.data.toList[0]?=QJ c->b3_ c.toNat=false) (a:s.data.toList.all g6_=true):d8_ s=true:=by unfold d8_;rw[a,jg_ (by omega)];have:=h0 _ (ep_ s 0 (by omega));simp[h1,h2,this]
theorem Ip_ (s:ByteArray) (hs:s.size<=9223372036854775807) (w:QV):Calls QW 187 #[QZ s] w λe w'=>e = YQ (XY (d8_ s))/\w'=w:=by
 go_enter func187,ntmps187
 go_wp2_with fail;go_loop [8] (λi=>∃k:Nat,k<=s.size/\i = QY QU (k:Nat)/\Q_ ((s.data.toList.take k).all g6_=true/\∀c,0<k->s.data.toList[0]?=QJ c->b3_ c.toNat=false)) (λi=>s.size-(intOf i).toNat)
 case atStart=>exact⟨0,by omega,rfl,q_ ⟨by simp,λc h=>absurd h (by omega)⟩⟩
 case round=>
  obtain⟨k,hk,rfl,b⟩:=hrel;by_cases O:k<s.size
  ·have p:=q_ (ep_ s k O);obtain⟨x,P⟩:∃x:Nat,s[k].toNat=x:=⟨_,rfl⟩;have y:=q_ P;have a0:x<256:=by rw[<-P];exact s[k].toNat_lt
   go_upto_region 5 with fail;go_cut [5] (λX Y=>X = XY (fb_ x)/\Y=w)
   case first=>
    by_cases S:97<=x
    ·by_cases T:x<=122
     ·have z:decide ((97:Int)<=x)=true:=dT_ (by omega);have G:decide ((x:Int)<=122)=true:=dT_ (by omega);have a:fb_ x=true:=dT_ (.inl ⟨S,T⟩);go_wp2_with fail;go_meet;exact⟨by rw[a],rfl⟩
     ·have z:decide ((97:Int)<=x)=true:=dT_ (by omega);have G:decide ((x:Int)<=122)=false:=dF_ (by omega);have r:decide ((65:Int)<=x)=true:=dT_ (by omega);have L:decide ((x:Int)<=90)=false:=dF_ (by omega);have I:((x:Int)==95)=false:=by simp;omega
      have a:fb_ x=false:=dF_ (by omega);go_wp2_with fail;go_meet;exact⟨by rw[a],rfl⟩
    ·have z:decide ((97:Int)<=x)=false:=dF_ (by omega);by_cases U:65<=x
     ·have r:decide ((65:Int)<=x)=true:=dT_ (by omega);by_cases V:x<=90
      ·have L:decide ((x:Int)<=90)=true:=dT_ (by omega);have a:fb_ x=true:=dT_ (.inr (.inl ⟨U,V⟩));go_wp2_with fail;go_meet;exact⟨by rw[a],rfl⟩
      ·have L:decide ((x:Int)<=90)=false:=dF_ (by omega);by_cases J:x=95
       ·have I:((x:Int)==95)=true:=by simp;omega
        have a:fb_ x=true:=dT_ (.inr (.inr J));clear J;go_wp2_with fail;go_meet;exact⟨by rw[a],rfl⟩
       ·have I:((x:Int)==95)=false:=by simp;omega
        have a:fb_ x=false:=dF_ (by omega);go_wp2_with fail;go_meet;exact⟨by rw[a],rfl⟩
     ·have r:decide ((65:Int)<=x)=false:=dF_ (by omega);have I:((x:Int)==95)=false:=by simp;omega
      have a:fb_ x=false:=dF_ (by omega);go_wp2_with fail;go_meet;exact⟨by rw[a],rfl⟩
   case rest=>
    obtain⟨C,rfl⟩:=hcut;by_cases a:fb_ x=true
    ·rw[a]at C;subst C;have j:g6_ s[k]=true:=by unfold g6_;rw[y.o,a];rfl
     have E:b3_ x=false:=by unfold fb_ at a;have:=of_decide_eq_true a;exact dF_ (by omega)
     have q:=q_ (ih_ p.o b.o.1 j)
     have D:=q_ (show ∀c,0<k+1->s.data.toList[0]?=QJ c->b3_ c.toNat=false from λc _ h0=>by
      by_cases f:k=0
      ·have h1:=p.o;subst f;rw[h0]at h1;rw[Option.some.inj h1,y.o];exact E
      ·exact b.o.2 c (by omega) h0)
     clear j a E;go_wp2_with fail;go_round
     case rel=>exact⟨k+1,by omega,by go_num,q_ ⟨q.o,D.o⟩⟩
     case measure=>simp[intOf];omega
    ·have a:fb_ x=false:=by simpa using a
     rw[a]at C;subst C;have R:=q_ a;clear a;by_cases D:48<=x/\x<=57
     ·have z:decide ((x:Int)<48)=false:=dF_ (by omega);have G:decide ((57:Int)<x)=false:=dF_ (by omega);have d:b3_ x=true:=dT_ D;by_cases f:k=0
      ·have m:=q_ (show d8_ s=false from xt_ (c:=s[k]) (by have h1:=p.o;subst f;exact h1) (by rw[y.o];exact d));have r:((k:Int)==0)=true:=by simp;omega
       clear d f;go_wp2_with fail;go_ret;exact⟨p_ m.o.symm,rfl⟩
      ·have j:g6_ s[k]=true:=by unfold g6_;rw[y.o,d];simp
       have q:=q_ (ih_ p.o b.o.1 j);have M:=q_ (show ∀c,0<k+1->s.data.toList[0]?=QJ c->b3_ c.toNat=false from λc _ h0=>b.o.2 c (by omega) h0);have r:((k:Int)==0)=false:=by simp;omega
       clear d j;go_wp2_with fail;go_round
       case rel=>exact⟨k+1,by omega,by go_num,q_ ⟨q.o,M.o⟩⟩
       case measure=>simp[intOf];omega
     ·have d:b3_ x=false:=dF_ D;have j:g6_ s[k]=false:=by unfold g6_;rw[y.o,d,R.o];rfl
      have m:=q_ (B4_ p.o j);clear d j;by_cases f:k=0
      ·have r:((k:Int)==0)=true:=by simp;omega
       clear f;go_wp2_with fail;go_ret;exact⟨p_ m.o.symm,rfl⟩
      ·have r:((k:Int)==0)=false:=by simp;omega
       by_cases Z:x<48
       ·have z:decide ((x:Int)<48)=true:=dT_ (by omega);go_wp2_with fail;go_ret;exact⟨p_ m.o.symm,rfl⟩
       ·have z:decide ((x:Int)<48)=false:=dF_ (by omega);have G:decide ((57:Int)<x)=true:=dT_ (by omega);go_wp2_with fail;go_ret;exact⟨p_ m.o.symm,rfl⟩
  ·have N:k=s.size:=by omega
   have g:=b.o;rw[YJ (by rw[al_];omega)]at g;have t:=q_ g;clear b g;subst N;by_cases h0:1<=s.size
   ·have h1:decide ((1:Int)<=s.size)=true:=dT_ (by omega);by_cases h2:s.size<=64
    ·have W:decide ((s.size:Int)<=64)=true:=dT_ (by omega);have B:=q_ (xu_ h0 h2 (λc p=>t.o.2 c (by omega) p) t.o.1);go_wp2_with fail;go_ret;exact⟨p_ B.o.symm,rfl⟩
    ·have W:decide ((s.size:Int)<=64)=false:=dF_ (by omega);have B:=q_ (nk_ (s:=s) (by omega));go_wp2_with fail;go_ret;exact⟨p_ B.o.symm,rfl⟩
   ·have h1:decide ((1:Int)<=s.size)=false:=dF_ (by omega);have B:=q_ (nk_ (s:=s) (by omega));go_wp2_with fail;go_ret;exact⟨p_ B.o.symm,rfl⟩
theorem yc_ (s:ByteArray) (w:QV):Calls QW 192 #[QZ s] w λe w'=>e = YQ (XY (d8_ s))/\w'=w:=by
 by_cases U:1<=s.size/\s.size<=64
 ·obtain⟨V,W⟩:=U;have h1:decide ((s.size:Int)<1)=false:=dF_ (by omega);have h2:decide ((64:Int)<s.size)=false:=dF_ (by omega);have h3:(0:Int)<s.size:=by omega
  have R:0<s.size:=by omega
  have z:=q_ (ep_ s 0 (by omega));obtain⟨x,Z⟩:∃x:Nat,(s[0]' R).toNat=x:=⟨_,rfl⟩;have L:=q_ Z;by_cases S:48<=x/\x<=57
  ·have r:decide ((48:Int)<=x)=true:=dT_ (by omega);have C:decide ((x:Int)<=57)=true:=dT_ (by omega);have d:=q_ (xt_ z.o (by rw[L.o];exact dT_ S));go_enter func192,ntmps192
   go_wp2_with fail;go_ret;exact⟨p_ d.o.symm,rfl⟩
  ·have B:b3_ x=false:=dF_ S
   have HD:=q_ (show ∀c,s.data.toList[0]?=QJ c->b3_ c.toNat=false from λc q=>by
    rw[z.o]at q;rw[<-Option.some.inj q,L.o];exact B)
   clear B;go_enter func192,ntmps192
   go_upto_region 1 with fail;go_cut [22] (λa0 J=>a0 = XY false/\J=w)
   case first=>
    by_cases h:48<=x
    ·have r:decide ((48:Int)<=x)=true:=dT_ (by omega);have C:decide ((x:Int)<=57)=false:=dF_ (by omega);go_wp2_with fail;go_meet;exact⟨rfl,rfl⟩
    ·have r:decide ((48:Int)<=x)=false:=dF_ (by omega);go_wp2_with fail;go_meet;exact⟨rfl,rfl⟩
   case rest=>
    obtain⟨rfl,rfl⟩:=hcut;clear Z;go_wp2_with fail;go_loop [3] (λi=>∃k:Nat,k<=s.size/\i = QY QU (k:Nat)/\Q_ ((s.data.toList.take k).all g6_=true)) (λi=>s.size-(intOf i).toNat)
    case atStart=>exact⟨0,by omega,rfl,q_ (by simp)⟩
    case round=>
     obtain⟨k,hk,rfl,m⟩:=hrel;by_cases X:k<s.size
     ·have q:=q_ (ep_ s k X);obtain⟨y,t⟩:∃y:Nat,s[k].toNat=y:=⟨_,rfl⟩;have M:=q_ t;have a4:y<256:=by rw[<-t];exact s[k].toNat_lt
      go_upto_region 7 with fail;go_cut [58] (λa3 J=>a3 = XY (!(fb_ y || b3_ y))/\J=wc)
      case first=>
       have Y:∀b:Bool,(fb_ y || b3_ y)=b->Value.bool (!b) = XY (!(fb_ y || b3_ y)):=λb hb=>by rw[hb]
       have g:=q_ Y;clear Y;by_cases a1:97<=y
       ·have r:decide ((97:Int)<=y)=true:=dT_ (by omega);have O:decide ((65:Int)<=y)=true:=dT_ (by omega);have P:decide ((y:Int)<=90)=false:=dF_ (by omega);have E:decide ((48:Int)<=y)=true:=dT_ (by omega);have G:decide ((y:Int)<=57)=false:=dF_ (by omega);have D:((y:Int)==95)=false:=by simp;omega
        by_cases a2:y<=122
        ·have C:decide ((y:Int)<=122)=true:=dT_ (by omega);have hb:=g.o true (by unfold fb_ b3_;simp;omega);have a:=q_ hb;clear hb;go_wp2_with fail;go_meet;exact⟨a.o,rfl⟩
        ·have C:decide ((y:Int)<=122)=false:=dF_ (by omega);have hb:=g.o false (by unfold fb_ b3_;simp;omega);have a:=q_ hb;clear hb;go_wp2_with fail;go_meet;exact⟨a.o,rfl⟩
       ·have r:decide ((97:Int)<=y)=false:=dF_ (by omega);by_cases b1:65<=y
        ·have O:decide ((65:Int)<=y)=true:=dT_ (by omega);have E:decide ((48:Int)<=y)=true:=dT_ (by omega);have G:decide ((y:Int)<=57)=false:=dF_ (by omega);by_cases b2:y<=90
         ·have P:decide ((y:Int)<=90)=true:=dT_ (by omega);have hb:=g.o true (by unfold fb_ b3_;simp;omega);have a:=q_ hb;clear hb;go_wp2_with fail;go_meet;exact⟨a.o,rfl⟩
         ·have P:decide ((y:Int)<=90)=false:=dF_ (by omega);by_cases N:y=95
          ·have D:((y:Int)==95)=true:=by simp;omega
           have hb:=g.o true (by unfold fb_ b3_;simp;omega);have a:=q_ hb;clear hb N;go_wp2_with fail;go_meet;exact⟨a.o,rfl⟩
          ·have D:((y:Int)==95)=false:=by simp;omega
           have hb:=g.o false (by unfold fb_ b3_;simp;omega);have a:=q_ hb;clear hb N;go_wp2_with fail;go_meet;exact⟨a.o,rfl⟩
        ·have O:decide ((65:Int)<=y)=false:=dF_ (by omega);have D:((y:Int)==95)=false:=by simp;omega
         by_cases d1:48<=y
         ·have E:decide ((48:Int)<=y)=true:=dT_ (by omega);by_cases d2:y<=57
          ·have G:decide ((y:Int)<=57)=true:=dT_ (by omega);have hb:=g.o true (by unfold fb_ b3_;simp;omega);have a:=q_ hb;clear hb;go_wp2_with fail;go_meet;exact⟨a.o,rfl⟩
          ·have G:decide ((y:Int)<=57)=false:=dF_ (by omega);have hb:=g.o false (by unfold fb_ b3_;simp;omega);have a:=q_ hb;clear hb;go_wp2_with fail;go_meet;exact⟨a.o,rfl⟩
         ·have E:decide ((48:Int)<=y)=false:=dF_ (by omega);have hb:=g.o false (by unfold fb_ b3_;simp;omega);have a:=q_ hb;clear hb;go_wp2_with fail;go_meet;exact⟨a.o,rfl⟩
      case rest=>
       obtain⟨p,rfl⟩:=hcut;by_cases j:(fb_ y || b3_ y)=true
       ·have I:=q_ (ih_ q.o m.o (by unfold g6_;rw[M.o,j]));rw[j]at p;subst p;clear j;go_wp2_with fail;go_round
        case rel=>exact⟨k+1,by omega,by go_num,q_ I.o⟩
        case measure=>simp[intOf];omega
       ·have j:(fb_ y || b3_ y)=false:=by simpa using j
        have d:=q_ (B4_ q.o (by unfold g6_;rw[M.o,j]));rw[j]at p;subst p;clear j;go_wp2_with fail;go_ret;exact⟨p_ d.o.symm,rfl⟩
     ·have T:k=s.size:=by omega
      have f:=m.o;rw[YJ (by rw[al_];omega)]at f;have t:=q_ (xu_ V W HD.o f);clear m f;subst T;go_wp2_with fail;go_ret;exact⟨p_ t.o.symm,rfl⟩
 ·have d:=q_ (nk_ U);by_cases h0:s.size<1
  ·have h1:decide ((s.size:Int)<1)=true:=dT_ (by omega);go_enter func192,ntmps192
   go_wp2_with fail;go_ret;exact⟨p_ d.o.symm,rfl⟩
  ·have h1:decide ((s.size:Int)<1)=false:=dF_ (by omega);have h2:decide ((64:Int)<s.size)=true:=dT_ (by omega);go_enter func192,ntmps192
   go_wp2_with fail;go_ret;exact⟨p_ d.o.symm,rfl⟩
theorem ne_ (x:Nat) (d:x<256) (w:QV):Calls QW 320 #[QY .u8 (x:Int)] w λe w'=>e = YQ (XY (b3_ x))/\w'=w:=by
 go_enter func320,ntmps320
 by_cases h1:x<48
 ·have b:decide ((48:Int)<=x)=false:=dF_ (by omega);have a:b3_ x=false:=dF_ (by omega);go_wp2_with fail;go_ret;exact⟨p_ a.symm,rfl⟩
 ·have b:decide ((48:Int)<=x)=true:=dT_ (by omega);by_cases h2:x<=57
  ·have c:decide ((x:Int)<=57)=true:=dT_ (by omega);have a:b3_ x=true:=dT_ (by omega);go_wp2_with fail;go_ret;exact⟨p_ a.symm,rfl⟩
  ·have c:decide ((x:Int)<=57)=false:=dF_ (by omega);have a:b3_ x=false:=dF_ (by omega);go_wp2_with fail;go_ret;exact⟨p_ a.symm,rfl⟩
def ac_ (w:QV) (A:Option Addr) (D:List Nat):Prop:=∀(i:Nat) (x:Nat),D[i]?=QJ x->∃ad,A=QJ ad/\(ad.add i).block<w.heap.size/\w.cell? (ad.add i)=QJ (QY QU (x:Int))
theorem ac_.under {w w':QV} {A:Option Addr} {D:List Nat} (h:ac_ w A D) (hb:XW w.heap.size w w'):ac_ w' A D:=λi x d=>by
 obtain⟨ad,b,a,c⟩:=h i x d;exact⟨ad,b,XZ a hb.size,(hb.cell (p:=ad.add i) a).trans c⟩
def atD (D:List Nat) (i:Nat):Nat:=(D[i]?).getD 0
theorem in_ (D:List Nat) (A:Option Addr) (d:Nat) (i:Nat) (hi:i<=4000000000000) (w:QV) (h:ac_ w A D) :
    Calls QW 321 #[QQ A D.length d,QY QU (i:Int)] w (Oi_ (atD D i) w):=by
 have f:=q_ h;clear h;obtain⟨n,c⟩:=a_ D.length;rw[c.o];go_enter func321,ntmps321
 have e0:decide ((i:Int)<0)=false:=dF_ (by omega);by_cases e:i<n
 ·have b:i<D.length:=by rw[c.o];exact e
  obtain⟨ad,rfl,_,k⟩:=f.o i _ (XQ b);have a:atD D i=D[i]:=by unfold atD;rw[XQ b];rfl
  rw[a];obtain⟨x,g⟩:=a_ D[i];rw[g.o]at k ⊢;have j:decide ((n:Int)<=i)=false:=dF_ (by omega);have m:(0:Int)<=i:=by omega
  have p:(i:Int)<n:=by omega
  clear a;go_wp2_with fail;go_ret;exact⟨rfl,0,rfl⟩
 ·have a:atD D i=0:=by unfold atD;rw[ZK (by rw[c.o];omega)];rfl
  rw[a];have j:decide ((n:Int)<=i)=true:=dT_ (by omega);clear a;go_wp2_with fail;go_ret;exact⟨rfl,0,rfl⟩
def F4_ (b:Bool) (w:QV) (e:Ending) (w':QV):Prop:=e = YQ (XY b)/\∃m,w'=w.drewN m
theorem Cr_ {p:Nat->Bool} {l:List Nat} {k:Nat} {c:Nat} (h:l[k]?=QJ c) (a:(l.take k).all p=true) (b:p c=true):(l.take (k+1)).all p=true:=by rw[f_ h];simp[a,b]
theorem Ki_ {p:Nat->Bool} {l:List Nat} {k:Nat} {c:Nat} (h:l[k]?=QJ c) (a:p c=false):l.all p=false:=by rw[List.all_eq_false];exact⟨c,YZ h,by simp[a]⟩
def gm_ (D:List Nat):Bool:=D.all (· == 0)
theorem zd_ (D:List Nat) (B:D.length<=4000000000000) (A:Option Addr) (q:Nat) (w:QV) (h:ac_ w A D) :
    Calls QW 253 #[QQ A D.length q] w (F4_ (gm_ D) w):=by
 have y:=q_ h;clear h;obtain⟨n,d⟩:=a_ D.length;rw[d.o]at B ⊢;go_enter func253,ntmps253
 go_wp2_with fail;go_loopw [3] (λj wr=>∃k m:Nat,k<=n/\j = QY QU (k:Nat)/\Q_ ((D.take k).all (· == 0)=true)/\wr=w.drewN m) (λj _=>n-(intOf j).toNat)
 case atStart=>exact⟨0,0,by omega,rfl,q_ (by simp),rfl⟩
 case round=>
  obtain⟨k,m,J,rfl,a,f⟩:=hrel;have e:=q_ f;have z:=q_ (show ac_ wr A D from by rw[f];exact y.o);clear f;by_cases s:k<n
  ·have b:k<D.length:=by rw[d.o];exact s
   obtain⟨ad,rfl,_,C⟩:=z.o k _ (XQ b);have g:=q_ (show D[k]?=QJ D[k] from XQ b);obtain⟨x,p⟩:=a_ D[k];rw[p.o]at C g;clear p b;have E:(0:Int)<=k:=by omega
   have G:(k:Int)<n:=by omega
   by_cases c:x=0
   ·subst c;have i:=q_ (show (D.take (k+1)).all (· == 0)=true from Cr_ g.o a.o rfl);go_wp2_with fail;go_roundw
    case rel=>exact⟨k+1,m,by omega,by go_num,i,e.o⟩
    case measure=>simp[intOf];omega
   ·have t:=q_ (show gm_ D=false from Ki_ g.o (by simpa using c));have I:((x:Int)==0)=false:=by simp;omega
    clear c;go_wp2_with fail;go_ret;exact⟨p_ t.o.symm,m,e.o⟩
  ·have r:k=n:=by omega
   subst r;have hz:=q_ (show gm_ D=true from by have:=a.o;rwa [YJ (by rw[d.o];omega)]at this);go_wp2_with fail;go_ret;exact⟨p_ hz.o.symm,m,e.o⟩
end
section
open Go Go.RowKit Go.Maps Go.WideMaps
theorem ak_ {w w':QV} {o:Obj} {a:Option Nat} (h:(w.alloc o).grownBy w' a):w.grownBy w' a:=
 ⟨h.os,h.tape,h.output,ZX (by simp) h.size,λk c b=>(h.block k (by simp;omega) b).trans (Below.heap_alloc w o k c)⟩
theorem c5_ {P:Program} {wr:QV} {j:Array Oper} {rest:List Oper} {o:Oper} {a:Act} {Q:Exit->Act->QV->Prop} (p:o.guard=QK) (s x:Operand) (t:TypeId)
    (L:o.op = .call { callee:=.builtin .append,args:=#[s,x],argTypes:=#[t,t] })
    (b:Nat) (e:TypeId) (z:XJ) (size bytes:Nat) (ht:P.underlying t=QJ (.slice e)) (f:(P.info? e).map (λi=>(i.zero,i.size,i.bytes))=QJ (QJ z,size,bytes))
    (D:z.cells.size=size) (r:0<size)
    (v:XJ) (n:Nat) (xs:List XJ) (M:a.eval s=v) (k:wr.ownsRow b e size v n xs) (E:b<=wr.heap.size)
    (cs:Array XJ) (m c:Nat) (N:a.eval x = QQ (QJ ⟨wr.heap.size,0,QK⟩) m c) (I:cs.size=m*size) (h1:∀u∈cs.toList,u.oneCell'=true)
    (q:0<m) (J:n+m<=100000000) (hb:bytes<=1000)
    (h:∀g d w',w'.ownsRow b e size (QQ (QJ ⟨g,0,QK⟩) (n+m) d) (n+m) (xs++cs.toList)->wr.grownBy w' v.ownBlock->(v.ownBlock=QJ g\/wr.heap.size<=g)->wpList P j Q rest (a.put o.dst (QQ (QJ ⟨g,0,QK⟩) (n+m) d)) w'):wpList P j Q (o::rest) a (wr.alloc (XX cs e)):=by
 obtain⟨O,hi,y,B,C⟩:=info_parts f
 refine wpList_append_lies _ p s x t L b e O z size bytes ht hi y B C D r v n xs M (k.alloc _) ⟨wr.heap.size,0,QK⟩ m c cs.toList N (by simpa using I)
  (World.news_of_block (XU wr _)) h1 q (by unfold maxLen;omega) (ZX (Nat.mul_le_mul J hb) (by decide)) (by simp;omega) _ rfl
  (λg d w' h1 h2 G _=>h g d w' h1 (ak_ h2) (G.imp id (λe=>by rw[e];simp)))
def VS (s:ByteArray):Prop:=s.size<=maxLen
def jy_ (s:ByteArray):Lit:=.string s.data.toList
theorem xq_:∀x y:ByteArray,VS x->VS y->jy_ x=jy_ y->x=y:=λx y _ _ h=>by
 injection h with h;exact ByteArray.ext (Array.toList_inj.1 h)
theorem qm_:∀x:ByteArray,VS x->WideAt.IsKeyLit (jy_ x):=λ_ _=>trivial
theorem H8_:Keyed QW 9:=string_keyed underlying9
theorem qk_:(Tryz.prog.info? 9).map (λi=>(i.zero,i.size,i.bytes))=QJ (QJ (QZ ⟨#[]⟩),1,16):=by kernel_rfl
theorem Lv_ (x:ByteArray):∀u∈(#[Value.string x]:Array XJ).toList,u.oneCell'=true:=by intro u a;simp at a;subst a;rfl
theorem Nm_ {X:DataW Unit} {a b:Int} (h1:X = .lit (.int .i64 a)) (h2:X = .lit (.int .i64 b)):a=b:=by have:=h1.symm.trans h2;injection this with this;injection this
theorem infoByte:(Tryz.prog.info? 5).map (λi=>(i.zero,i.size,i.bytes))=QJ (QJ (QY .u8 0),1,1):=by kernel_rfl
theorem hq_ (x:Int):∀u∈(#[Value.int .u8 x]:Array XJ).toList,u.oneCell'=true:=by intro u a;simp at a;subst a;rfl
theorem l7_ {w:QV} {B b:Nat} {e:TypeId} {a:Nat} {v:XJ} {n:Nat} {xs:List XJ} (h:w.ownsRow B e a v n xs) (f:b<=B):w.ownsRow b e a v n xs:=by
 refine⟨h.1,?_⟩;rcases h.2 with h0 | ⟨g,c,d,rfl,hb,rest⟩
 ·exact .inl h0
 ·exact .inr ⟨g,c,d,rfl,ZX f hb,rest⟩
def rf_ (l:List UInt8):ByteArray:=⟨l.toArray⟩
theorem wf_ {w:QV} {b:Nat} {v:XJ} {l:List UInt8} (h:w.ownsRow b 5 1 v l.length (Lib.byteCells l)):(convert 197 9 v).run QW w = .ok (QZ (rf_ l)) w:=by
 have e:Tryz.prog.underlying 5=QJ (.int .u8):=by kernel_rfl
 have d:Tryz.prog.underlying 9=some .string:=by kernel_rfl
 rcases h.2 with⟨rfl,h0⟩ | ⟨g,c,i,rfl,_,f,_,_,_,a⟩
 ·obtain rfl:l=[]:=UK h0;exact Lib.run_convert_nil_bytes w 197 9 5 0 underlying197 e d
 ·exact run_convert_bytes_back w 197 9 5 ⟨g,0,QK⟩ c l underlying197 e d (Lib.bytes_of_row f (by simpa using a))
def Mk_ (w:QV) (v a:XJ):Prop:=a.ownBlock=v.ownBlock\/∀g,a.ownBlock=QJ g->w.heap.size<=g
theorem Mk_.refl (w:QV) (v:XJ):Mk_ w v v:=.inl rfl
theorem ey_ {w:QV} {c e d g:Nat} {v:XJ} {n:Nat} {xs:List XJ} (h:w.ownsRow c e d v n xs) (a:v.ownBlock=QJ g):∃b,w.heap[g]?=QJ (XX b e (0,0)):=by
 rcases h.2 with⟨h0,_⟩ | ⟨j,i,b,h0,_,f,_⟩
 ·rw[h0]at a;cases a
 ·rw[h0]at a;injection a with a;subst a;exact⟨_,f⟩
theorem cm_ {w:QV} {a e b c C:Nat} {v:XJ} {n:Nat} {xs:List XJ} (h:w.ownsRow a e b v n xs) {cs:Array XJ} (f:w.heap[c]?=QJ (XX cs C (0,0))) (d:e≠C):v.ownBlock≠QJ c:=λg=>by
 obtain⟨i,h1⟩:=ey_ h g;rw[f]at h1;injection h1 with h1;injection h1 with _ h1;exact d h1.symm
theorem jn_ {w:QV} {c a e f d b:Nat} {v u:XJ} {n m:Nat} {xs q:List XJ} (h:w.ownsRow c e d v n xs) (k:w.ownsRow a f b u m q) (i:e≠f):∀g,u.ownBlock=QJ g->v.ownBlock≠QJ g:=λg o p=>by
 obtain⟨r,h1⟩:=ey_ h p;obtain⟨j,h2⟩:=ey_ k o;rw[h1]at h2;injection h2 with h2;injection h2 with _ h2;exact i h2
theorem b_ {w:QV} {c:Nat} {o:Obj} (h:w.heap[c]?=QJ o):c<w.heap.size:=by
 rcases VZ c w.heap.size with a | a
 ·exact a
 ·rw[Array.getElem?_eq_none a]at h;cases h
theorem cp_ {w:QV} {a e b:Nat} {v:XJ} {n:Nat} {xs:List XJ} (h:w.ownsRow a e b v n xs):∃A cp,v = QQ A n cp:=by
 rcases h.2 with⟨rfl,h0⟩ | ⟨g,cp,c,rfl,_⟩
 ·exact⟨QK,0,by rw[h0]⟩
 ·exact⟨_,cp,rfl⟩
theorem x2_ {w:QV} {a e b:Nat} {v:XJ} {n:Nat} {xs:List XJ} (h:w.ownsRow a e b v n xs):w.drew.ownsRow a e b v n xs:=h
theorem l2_ (k:IntKind) (x:Int):∀u∈(#[Value.int k x]:Array XJ).toList,u.oneCell'=true:=by intro u a;simp at a;subst a;rfl
def bj_ (s:ByteArray):Bool:=s.data.toList.head?==some 45
def g9_ (s:ByteArray):Bool:=s.data.toList.head?==some 45 || s.data.toList.head?==some 43
def bt_ (s:ByteArray):ByteArray:=cond (g9_ s) (s.extract 1 s.size) s
def aq_:List UInt8->Nat->Option Nat->Option (Option Nat)
 | [],_,p=>QJ p
 | c::l,i,p=>cond (c==46&&p.isNone) (aq_ l (i+1) (QJ i)) (cond (b3_ c.toNat) (aq_ l (i+1) p) QK)
def bf_:List UInt8->List Nat
 | []=>[]
 | c::l=>bf_ l++cond (c==46) [] [c.toNat-48]
theorem lm_ {l:List UInt8} {k:Nat} {c:UInt8} (h:l[k]?=QJ c):l.drop k=c::l.drop (k+1):=by obtain⟨a,rfl⟩:=List.getElem?_eq_some_iff.1 h;exact List.drop_eq_getElem_cons a
theorem Ow_ {l:List UInt8} {k:Nat} (h:l[k]?=some 46):aq_ (l.drop k) k QK=aq_ (l.drop (k+1)) (k+1) (QJ k):=by rw[lm_ h];rfl
theorem Nx_ {l:List UInt8} {k:Nat} {c:UInt8} {p:Option Nat} (h:l[k]?=QJ c) (a:b3_ c.toNat=true):aq_ (l.drop k) k p=aq_ (l.drop (k+1)) (k+1) p:=by
 rw[lm_ h];have b:(c==46)=false:=by refine bN_.2 λe=>?_;rw[e]at a;cases a
 simp[aq_,b,a]
theorem Ov_ {l:List UInt8} {k:Nat} {c:UInt8} {p:Option Nat} (h:l[k]?=QJ c) (d:b3_ c.toNat=false) (a:c≠46\/∃i,p=QJ i):aq_ (l.drop k) k p=QK:=by
 rw[lm_ h]
 have b:(c==46&&p.isNone)=false:=by
  rcases a with a | ⟨i,rfl⟩
  ·rw[bN_.2 a];rfl
  ·simp
 simp[aq_,b,d]
theorem Ny_ {l:List UInt8} {k:Nat} {p:Option Nat} (h:l.length<=k):aq_ (l.drop k) k p=QJ p:=by rw[List.drop_of_length_le h];rfl
def ptI:Option Nat->Int
 | none=>-1
 | some i=>i
def k0_ (n:Nat):Option Nat->Nat
 | none=>0
 | some i=>n-1-i
def c4_ (s:ByteArray):Option (Bool×List Nat×Nat):=
 match aq_ (bt_ s).data.toList 0 QK with
 | none=>none
 | some p=>cond (decide ((bt_ s).size=0) || (p==some 0) || (p==some ((bt_ s).size-1))) none
     (QJ (bj_ s,bf_ (bt_ s).data.toList,k0_ (bt_ s).size p))
theorem An_ {s:ByteArray} (h:aq_ (bt_ s).data.toList 0 QK=QK):c4_ s=QK:=by unfold c4_;rw[h]
theorem jh_:(Tryz.prog.info? 3).map (λi=>(i.zero,i.size,i.bytes))=QJ (QJ (QY QU 0),1,8):=by kernel_rfl
theorem vl_ {s:ByteArray} (h:0<s.size) (h1:s[0].toNat=45):bj_ s=true/\g9_ s=true/\bt_ s=s.extract 1 s.size:=by have h2:s[0]=45:=UInt8.toNat_inj.1 h1;have a:=jg_ h;unfold bt_ g9_ bj_;rw[a,h2];exact⟨rfl,rfl,rfl⟩
theorem yu_ {s:ByteArray} (h:0<s.size) (h1:s[0].toNat=43):bj_ s=false/\g9_ s=true/\bt_ s=s.extract 1 s.size:=by have h2:s[0]=43:=UInt8.toNat_inj.1 h1;have a:=jg_ h;unfold bt_ g9_ bj_;rw[a,h2];exact⟨rfl,rfl,rfl⟩
theorem yt_ {s:ByteArray} (h:0<s.size) (h1:s[0].toNat≠45) (h2:s[0].toNat≠43):bj_ s=false/\g9_ s=false/\bt_ s=s:=by
 have a:s[0]≠45:=λe=>h1 (by rw[e];rfl);have b:s[0]≠43:=λe=>h2 (by rw[e];rfl);have f:=jg_ h;unfold bt_ g9_ bj_;rw[f];have c:(QJ s[0]==QJ (45:UInt8))=false:=by simpa using a
 have d:(QJ s[0]==QJ (43:UInt8))=false:=by simpa using b
 rw[c,d];exact⟨rfl,rfl,rfl⟩
theorem nw_ {s:ByteArray} (h:¬0<s.size):bj_ s=false/\g9_ s=false/\bt_ s=s:=by have a:s.data.toList=[]:=UK (by rw[al_];omega);unfold bt_ g9_ bj_;rw[a];exact⟨rfl,rfl,rfl⟩
theorem rd_ (s:ByteArray):(bt_ s).size<=s.size:=by
 unfold bt_
 cases g9_ s
 ·exact XK _
 ·simp
def to_ (s:ByteArray) (w:QV):QV:=(w.alloc (XX #[XY false,QQ QK 0 0,QY QU 0] 277)).alloc (XX #[XY (bj_ s),QQ QK 0 0,QY QU 0] 277)
def Fx_ (s:ByteArray) (w:QV) (e:Ending) (w':QV):Prop:=XW w.heap.size w w' /\
 match c4_ s with
 | none=>e = YQ (ZJ #[.agg #[XY false,QQ none 0 0,QY QU 0],XY false])
 | some (neg,D,S)=>∃A a,e = YQ (ZJ #[.agg #[XY neg,QQ A D.length a,QY QU (S:Int)],XY true])/\ac_ w' A D
structure Oe_ (w:QV) (b:Nat) (sg:Bool) (D:List Nat) (v:XJ) (S:Nat) (wr:QV):Prop where
 below:XW w.heap.size w wr
 res:wr.heap[b]?=QJ (XX #[XY false,QQ QK 0 0,QY QU 0] 277 (0,0))
 num:wr.heap[b+1]?=QJ (XX #[XY sg,v,QY QU (S:Int)] 277 (0,0))
 row:wr.ownsRow (b+2) 3 1 v D.length (D.map λ(x:Nat)=>Value.int QU (x:Int))
 size:b+2<=wr.heap.size
theorem xh_ {w:QV} {a:Nat} {D:List Nat} {A:Option Addr} {cp:Nat} (h:w.ownsRow a 3 1 (QQ A D.length cp) D.length (D.map λ(x:Nat)=>Value.int QU (x:Int))):ac_ w A D:=by
 intro i x c;have h2:=h;rcases h.2 with⟨h0,_⟩ | ⟨g,e,f,h0,_⟩
 ·injection h0 with _ hn _;have b:=(List.getElem?_eq_some_iff.1 c).1;rw[hn]at b;exact absurd b (Nat.not_lt_zero _)
 ·have d:A=QJ ⟨g,0,QK⟩:=by injection h0
  exact⟨_,d,by have:=(h2.lt g (by rw[h0];rfl)).2;unfold Addr.add;split<;>exact this,h2.cells (g:=g) (by rw[h0];rfl) i _ (by rw[List.getElem?_map,c];rfl)⟩
theorem Iz_ {l:List UInt8}:∀{i:Nat} {p q:Option Nat},aq_ l i p=QJ q->∀c∈l,c=46\/b3_ c.toNat=true:=by
 induction l with
 | nil=>intro i p q _ c a;cases a
 | cons d l b=>
  intro i p q h c a;unfold aq_ at h
  cases h1:(d==46&&p.isNone) with
  | true=>
   rw[h1]at h;rcases List.mem_cons.1 a with rfl | a
   ·exact .inl (beq_iff_eq.1 (Bool.and_eq_true_iff.1 h1).1)
   ·exact b h c a
  | false=>
   rw[h1]at h
   cases h2:b3_ d.toNat with
   | true=>
    rw[h2]at h;rcases List.mem_cons.1 a with rfl | a
    ·exact .inr h2
    ·exact b h c a
   | false=>rw[h2]at h;cases h
theorem K1_ {l:List UInt8} {k:Nat} (h:l[k]?=some 46):bf_ (l.drop k)=bf_ (l.drop (k+1)):=by rw[lm_ h];simp[bf_]
theorem G2_ {l:List UInt8} {k:Nat} {c:UInt8} (h:l[k]?=QJ c) (a:c≠46):bf_ (l.drop k)=bf_ (l.drop (k+1))++[c.toNat-48]:=by rw[lm_ h];simp[bf_,bN_.2 a]
theorem n1_ (l:List UInt8):(bf_ l).length<=l.length:=by
 induction l with
 | nil=>simp[bf_]
 | cons c l a=>
  unfold bf_
  cases h:c==46<;>simp<;>omega
theorem ju_ {w:QV} {b C:Nat} {e f g:XJ} (a c d:XJ) (h:w.heap[b]?=QJ (XX #[e,f,g] C (0,0))):(((w.setCell ⟨b,0,QK⟩ a).setCell ⟨b,1,QK⟩ c).setCell ⟨b,2,QK⟩ d).heap[b]?=QJ (XX #[a,c,d] C (0,0)):=
 heap_setCell_same _ b 2 _ C _ (heap_setCell_same _ b 1 _ C _ (heap_setCell_same w b 0 _ C _ h))
theorem gk_ {a w:QV} {k b:Nat} (c d e:XJ) (h:XW k a w) (hb:k<=b):XW k a (((w.setCell ⟨b,0,QK⟩ c).setCell ⟨b,1,QK⟩ d).setCell ⟨b,2,QK⟩ e):=
 ((h.setCell (p:=⟨b,0,QK⟩) hb _).setCell (p:=⟨b,1,QK⟩) hb _).setCell (p:=⟨b,2,QK⟩) hb _
theorem kt_ (s:ByteArray) (hs:s.size<=4000000000000) (w:QV):Calls QW 289 #[QZ s] w (Fx_ s w):=by
 go_enter func289,ntmps289
 go_upto_region 2 with fail;go_cut [20] (λb9 wx=>b9 = XY (g9_ s)/\wx=(w.alloc (XX #[XY false,QQ QK 0 0,QY QU 0] 277)).alloc (XX #[XY false,QQ QK 0 0,QY QU 0] 277))
 case first=>
  by_cases h0:0<s.size
  ·by_cases h1:s[0].toNat=45
   ·have Y:=q_ (vl_ h0 h1);have e1:((s[0].toNat:Int)==45)=true:=by simp;omega
    clear h1;go_wp2_with fail;go_meet;exact⟨by rw[Y.o.2.1],rfl⟩
   ·have e1:((s[0].toNat:Int)==45)=false:=by simp;omega
    by_cases h2:s[0].toNat=43
    ·have Y:=q_ (yu_ h0 h2);have X:((s[0].toNat:Int)==43)=true:=by simp;omega
     clear h1 h2;go_wp2_with fail;go_meet;exact⟨by rw[Y.o.2.1],rfl⟩
    ·have Y:=q_ (yt_ h0 h1 h2);have X:((s[0].toNat:Int)==43)=false:=by simp;omega
     clear h1 h2;go_wp2_with fail;go_meet;exact⟨by rw[Y.o.2.1],rfl⟩
  ·have Y:=q_ (nw_ h0);go_wp2_with fail;go_meet;exact⟨by rw[Y.o.2.1],rfl⟩
 case rest=>
  obtain⟨V,rfl⟩:=hcut;have HT:=q_ (show (bt_ s).size<=4000000000000 from ZX (rd_ s) hs);go_upto_if 20 with fail;go_cut [0] (λs0 wx=>s0 = QZ (bt_ s)/\wx=to_ s w)
  case first=>
   by_cases r:g9_ s=true
   ·have h0:0<s.size:=by refine Classical.byContradiction λh=>?_;rw[(nw_ h).2.1]at r;cases r
    rw[r]at V;subst V
    have c:=q_ (show Value.bool ((s[0].toNat:Int)==45) = XY (bj_ s) from by
     by_cases h1:s[0].toNat=45
     ·rw[(vl_ h0 h1).1,h1];rfl
     ·by_cases h2:s[0].toNat=43
      ·rw[(yu_ h0 h2).1,h2];rfl
      ·rw[(yt_ h0 h1 h2).2.1]at r;cases r)
    have ht:=q_ (show bt_ s=s.extract 1 s.size from by unfold bt_;rw[r];rfl);clear r;go_wp2_with fail;go_meet;exact⟨by rw[ht.o],by unfold to_;rw[<-c.o]⟩
   ·have r:g9_ s=false:=by simpa using r
    have ht:=q_ (show bt_ s=s from by unfold bt_;rw[r];rfl);have hb:=q_ (show bj_ s=false from by unfold g9_ at r;unfold bj_;exact (Bool.or_eq_false_iff.1 r).1);rw[r]at V;subst V;clear r;go_wp2_with fail;go_meet;exact⟨by rw[ht.o],by unfold to_;rw[hb.o]⟩
  case rest=>
   obtain⟨h0,hw⟩:=hcut;subst h0;have HW:=q_ hw;clear hw V;have HS:=q_ (show wc.heap.size=w.heap.size+2 by rw[HW.o];simp[to_]);have HB:=q_ (show XW w.heap.size w wc by rw[HW.o];exact ((XV w.heap.size w).alloc (XK _) _).alloc (by simp) _);have m:=q_ (show wc.heap[w.heap.size]?=QJ (XX #[XY false,QQ QK 0 0,QY QU 0] 277 (0,0)) by rw[HW.o];unfold to_;rw[Below.heap_alloc _ _ _ (by simp)];exact XU w _);have af:=q_ (show wc.heap[w.heap.size+1]?=QJ (XX #[XY (bj_ s),QQ QK 0 0,QY QU 0] 277 (0,0)) by rw[HW.o];unfold to_;have:=XU (w.alloc (XX #[XY false,QQ QK 0 0,QY QU 0] 277)) (XX #[XY (bj_ s),QQ QK 0 0,QY QU 0] 277);rw[show (w.alloc (XX #[XY false,QQ QK 0 0,QY QU 0] 277)).heap.size=w.heap.size+1 by simp]at this;exact this);have f2:wc.frozen? ⟨w.heap.size,0,QK⟩=false:=YY m.o 0;have aa:wc.frozen? ⟨w.heap.size,1,QK⟩=false:=YY m.o 1;have ab:wc.frozen? ⟨w.heap.size,2,QK⟩=false:=YY m.o 2;have a7:wc.cell? ⟨w.heap.size,0,QK⟩=QJ (XY false):=QX m.o 0;have a8:wc.cell? ⟨w.heap.size,1,QK⟩=QJ (QQ QK 0 0):=QX m.o 1;have a9:wc.cell? ⟨w.heap.size,2,QK⟩=QJ (QY QU 0):=QX m.o 2;obtain⟨b,J⟩:=a_ w.heap.size;obtain⟨t,L⟩:=a_ (bt_ s);have b4:=HT.o;rw[L.o]at b4;rw[L.o];rw[J.o]at HS m af f2 aa ab a7 a8 a9;rw[J.o];clear hs;go_wp2_with fail;go_loop [5,6] (λs5 s6=>∃(k:Nat) (p:Option Nat),k<=t.size/\s5 = QY QU (ptI p)/\s6 = QY QU (k:Nat)/\Q_ (aq_ t.data.toList 0 QK=aq_ (t.data.toList.drop k) k p/\∀i,p=QJ i->i<k)) (λ_ s6=>t.size-(intOf s6).toNat)
   case atStart=>exact⟨0,none,by omega,rfl,rfl,q_ ⟨rfl,λi h=>by cases h⟩⟩
   case round=>
    obtain⟨k,p,hk,rfl,rfl,f⟩:=hrel;by_cases b1:k<t.size
    ·have G:=q_ (ep_ t k b1);obtain⟨x,hx⟩:∃x:Nat,t[k].toNat=x:=⟨_,rfl⟩;have R:=q_ hx;have b5:x<256:=by rw[<-hx];exact t[k].toNat_lt
     by_cases E:b3_ x=true
     ·have ar:48<=x/\x<=57:=by unfold b3_ at E;exact of_decide_eq_true E
      have e1:((x:Int)==46)=false:=by simp;omega
      have HD:=q_ E;have I:=q_ (show aq_ t.data.toList 0 QK=aq_ (t.data.toList.drop (k+1)) (k+1) p from by rw[f.o.1];exact Nx_ G.o (by rw[R.o];exact HD.o));have am:=q_ (show ∀i,p=QJ i->i<k+1 from λi h=>Nat.lt_succ_of_lt (f.o.2 i h));clear E;go_wp2_with fail;refine (ne_ _ (by omega) _).mono ?_;rintro e w' ⟨rfl,rfl⟩;rw[HD.o];go_wp2_with fail;go_round
      case rel=>exact⟨k+1,p,by omega,rfl,by go_num,q_ ⟨I.o,am.o⟩⟩
      case measure=>simp[intOf];omega
     ·have E:b3_ x=false:=by simpa using E
      have HD:=q_ E;clear E;obtain⟨q,P⟩:=a_ (ptI p);rw[P.o];by_cases W:x=46/\p=none
      ·obtain⟨rfl,rfl⟩:=W;have U:q<0:=by rw[<-P.o];decide
       have X:decide (q<0)=true:=dT_ U;have ad:t[k]=46:=UInt8.toNat_inj.1 R.o;have I:=q_ (show aq_ t.data.toList 0 QK=aq_ (t.data.toList.drop (k+1)) (k+1) (QJ k) from by rw[f.o.1];exact Ow_ (by rw[G.o,ad]));clear U ad;go_wp2_with fail;go_round
       case rel=>exact⟨k+1,QJ k,by omega,rfl,by go_num,q_ ⟨I.o,λi h=>by injection h with h;omega⟩⟩
       case measure=>simp[intOf];omega
      ·have a4:=q_ (show c4_ s=QK from An_ (by
         rw[L.o,f.o.1];refine Ov_ G.o (by rw[R.o];exact HD.o) ?_
         cases p with
         | none=>exact .inl λe=>W ⟨by rw[<-R.o,e];rfl,rfl⟩
         | some i=>exact .inr ⟨i,rfl⟩))
       have HP:=q_ W;clear W;by_cases O:x=46
       ·have U:¬q<0:=by
          rw[<-P.o]
          cases p with
          | none=>exact absurd ⟨O,rfl⟩ HP.o
          | some i=>simp[ptI]
        have X:decide (q<0)=false:=dF_ U;subst O;clear U;go_wp2_with fail;refine (ne_ _ (by omega) _).mono ?_;rintro e w' ⟨rfl,rfl⟩;rw[HD.o];go_wp2_with fail;have d:=ju_ (XY false) (QQ QK 0 0) (QY QU 0) m.o;have N:=q_ (gk_ (b:=b) (XY false) (QQ QK 0 0) (QY QU 0) HB.o (by rw[J.o];exact XK b));obtain⟨B,M⟩:=a_ (((w'.setCell ⟨b,0,QK⟩ (XY false)).setCell ⟨b,1,QK⟩ (QQ QK 0 0)).setCell ⟨b,2,QK⟩ (QY QU 0));rw[M.o]at d N ⊢;have r0:B.cell? ⟨b,0,QK⟩=QJ (XY false):=QX d 0;have r1:B.cell? ⟨b,1,QK⟩=QJ (QQ QK 0 0):=QX d 1;have r2:B.cell? ⟨b,2,QK⟩=QJ (QY QU 0):=QX d 2;exact ZV (v:=ZJ #[.agg #[XY false,QQ QK 0 0,QY QU 0],XY false]) (by simp[results,results289,go_sem,r0,r1,r2]) rfl ⟨N.o,by rw[a4.o]⟩
       ·have e1:((x:Int)==46)=false:=by simp;omega
        clear O;go_wp2_with fail;refine (ne_ _ (by omega) _).mono ?_;rintro e w' ⟨rfl,rfl⟩;rw[HD.o];go_wp2_with fail;have d:=ju_ (XY false) (QQ QK 0 0) (QY QU 0) m.o;have N:=q_ (gk_ (b:=b) (XY false) (QQ QK 0 0) (QY QU 0) HB.o (by rw[J.o];exact XK b));obtain⟨B,M⟩:=a_ (((w'.setCell ⟨b,0,QK⟩ (XY false)).setCell ⟨b,1,QK⟩ (QQ QK 0 0)).setCell ⟨b,2,QK⟩ (QY QU 0));rw[M.o]at d N ⊢;have r0:B.cell? ⟨b,0,QK⟩=QJ (XY false):=QX d 0;have r1:B.cell? ⟨b,1,QK⟩=QJ (QQ QK 0 0):=QX d 1;have r2:B.cell? ⟨b,2,QK⟩=QJ (QY QU 0):=QX d 2;exact ZV (v:=ZJ #[.agg #[XY false,QQ QK 0 0,QY QU 0],XY false]) (by simp[results,results289,go_sem,r0,r1,r2]) rfl ⟨N.o,by rw[a4.o]⟩
    ·have ai:k=t.size:=by omega
     have W:=q_ (show aq_ (bt_ s).data.toList 0 QK=QJ p from by rw[L.o,f.o.1];exact Ny_ (by rw[al_];omega));have b3:=q_ (show ∀i,p=QJ i->i<t.size from by rw[<-ai];exact f.o.2);subst ai;clear f;obtain⟨q,P⟩:=a_ (ptI p);rw[P.o];obtain⟨cB,HC⟩:=a_ (decide (t.size=0) || (p==some 0) || (p==QJ (t.size-1)))
     go_upto_region 13 with fail;go_cut [61] (λba wx=>ba = XY cB/\wx=wc)
     case first=>
      by_cases a0:t.size=0
      ·have e1:((t.size:Int)==0)=true:=beq_iff_eq.2 (by omega);have G:=q_ (show cB=true from by rw[<-HC.o,dT_ a0];rfl);clear a0;go_wp2_with fail;go_meet;exact⟨by rw[G.o],rfl⟩
      ·have e1:((t.size:Int)==0)=false:=bN_.2 (by omega);by_cases a1:p=some 0
       ·have X:(q==0)=true:=by rw[<-P.o,a1];rfl
        have G:=q_ (show cB=true from by rw[<-HC.o,a1];simp);clear a1;go_wp2_with fail;go_meet;exact⟨by rw[G.o],rfl⟩
       ·have X:(q==0)=false:=by
          rw[<-P.o]
          cases p with
          | none=>rfl
          | some i=>
           have:i≠0:=λh=>a1 (by rw[h]);exact bN_.2 (by show (i:Int)≠0;omega)
        have w1:IntKind.i64.wrap ((t.size:Int)-1)=t.size-1:=YU _ (by omega)
        have G:=q_ (show (q==(t.size:Int)-1)=cB from by
         rw[<-HC.o,<-P.o,dF_ a0]
         cases p with
         | none=>exact bN_.2 (by show (-1:Int)≠(t.size:Int)-1;omega)
         | some i=>
          have h1:(QJ i==some 0)=false:=by simpa using λh:i=0=>a1 (by rw[h])
          rw[h1];by_cases h2:i=t.size-1
          ·subst h2;simp[ptI];omega
          ·have d:(QJ i==QJ (t.size-1))=false:=by simpa using h2
           rw[d];simp[ptI];omega)
        clear a1 a0;go_wp2_with fail;go_meet;exact⟨by rw[G.o],rfl⟩
     case rest=>
      obtain⟨ah,rfl⟩:=hcut
      cases cB with
      | true=>
       subst ah;have a4:=q_ (show c4_ s=QK from by unfold c4_;rw[W.o,L.o];simp only;rw[HC.o];rfl);go_wp2_with fail;have d:=ju_ (XY false) (QQ QK 0 0) (QY QU 0) m.o;have N:=q_ (gk_ (b:=b) (XY false) (QQ QK 0 0) (QY QU 0) HB.o (by rw[J.o];exact XK b));obtain⟨B,M⟩:=a_ (((wc.setCell ⟨b,0,QK⟩ (XY false)).setCell ⟨b,1,QK⟩ (QQ QK 0 0)).setCell ⟨b,2,QK⟩ (QY QU 0));rw[M.o]at d N ⊢;have r0:B.cell? ⟨b,0,QK⟩=QJ (XY false):=QX d 0;have r1:B.cell? ⟨b,1,QK⟩=QJ (QQ QK 0 0):=QX d 1;have r2:B.cell? ⟨b,2,QK⟩=QJ (QY QU 0):=QX d 2;exact ZV (v:=ZJ #[.agg #[XY false,QQ QK 0 0,QY QU 0],XY false]) (by simp[results,results289,go_sem,r0,r1,r2]) rfl ⟨N.o,by rw[a4.o]⟩
      | false=>
       subst ah;have I:=q_ (show c4_ s=QJ (bj_ s,bf_ t.data.toList,k0_ t.size p) from by unfold c4_;rw[W.o,L.o];simp only;rw[HC.o];rfl)
       have bg:0<t.size:=by
        rcases Nat.eq_zero_or_pos t.size with h | h
        ·have:=HC.o;rw[dT_ h]at this
         cases this
        ·exact h
       have f:=q_ (Iz_ W.o);rw[L.o]at f;have w1:IntKind.i64.wrap ((t.size:Int)-1)=t.size-1:=YU _ (by omega);go_wp2_with fail;go_loopw [7] (λs7 wr=>∃(i:Nat) (v:XJ),i<=t.size/\s7 = QY QU ((i:Int)-1)/\Q_ (Oe_ w b (bj_ s) (bf_ (t.data.toList.drop i)) v 0 wr)) (λs7 _=>(intOf s7+1).toNat)
       case atStart=>
        refine⟨t.size,QQ QK 0 0,XK _,rfl,q_ ⟨HB.o,m.o,af.o,?_,by rw[HS.o];exact XK _⟩⟩;rw[List.drop_of_length_le (by rw[al_];exact XK _)];exact World.ownsRow_nil wc (b+2) 3 1
       case round=>
        obtain⟨i,v,hi,rfl,c⟩:=hrel;have bi:=c.o.size;by_cases ay:i=0
        ·subst ay;have av:=q_ (show bf_ (t.data.toList.drop 0)=bf_ t.data.toList from by rw[List.drop_zero]);obtain⟨D,a2⟩:=a_ (bf_ t.data.toList);obtain⟨S,a6⟩:=a_ (k0_ t.size p);rw[av.o,a2.o]at c;rw[a2.o,a6.o]at I;have ac:=q_ (show w.heap.size<=b by rw[J.o];exact XK b);clear f2 aa ab a7 a8 a9;go_upto_if 85 with fail;go_cut [7] (λ_ wx=>Oe_ w b (bj_ s) D v S wx)
         case first=>
          cases p with
          | none=>
           have U:q = -1:=P.o.symm;subst U;have hS:=q_ (show S=0 from a6.o.symm);go_wp2_with fail;go_meet;rw[hS.o];exact c.o
          | some i=>
           have U:q=(i:Int):=P.o.symm;subst U;have bd:=b3.o i rfl;have X:decide (0<=(i:Int))=true:=dT_ (by omega);have hS:=q_ (show t.size-1-i=S from a6.o);have w5:IntKind.i64.wrap ((t.size:Int)-1-i)=(S:Int):=by rw[YU _ (by omega)];have:=hS.o;omega
           have d2:wr.cell? ⟨b+1,2,QK⟩=QJ (QY QU 0):=QX c.o.num 2;have f9:wr.frozen? ⟨b+1,2,QK⟩=false:=YY c.o.num 2;go_wp2_with fail;go_meet;exact⟨c.o.below.setCell (p:=⟨b+1,2,QK⟩) (by show w.heap.size<=b+1;have:=ac.o;omega) _,by rw[heap_setCell_other _ _ _ _ (by show b≠b+1;omega)];exact c.o.res,heap_setCell_same wr (b+1) 2 _ 277 _ c.o.num,ownsRow_setCell_other c.o.row (a:=⟨b+1,2,QK⟩) (cm_ c.o.row c.o.num (by decide)) _,by have:=c.o.size;simp;omega⟩
         case rest=>
          obtain⟨A,cp,rfl⟩:=cp_ hcut.row;obtain⟨n,HN⟩:=a_ D.length;have z:=q_ hcut;rw[HN.o]at z;have d0:wc.cell? ⟨b+1,0,QK⟩=QJ (XY (bj_ s)):=QX z.o.num 0;have d1:wc.cell? ⟨b+1,1,QK⟩=QJ (QQ A n cp):=QX z.o.num 1;have d2:wc.cell? ⟨b+1,2,QK⟩=QJ (QY QU (S:Int)):=QX z.o.num 2;have f2:wc.frozen? ⟨b,0,QK⟩=false:=YY z.o.res 0;have aa:wc.frozen? ⟨b,1,QK⟩=false:=YY z.o.res 1;have ab:wc.frozen? ⟨b,2,QK⟩=false:=YY z.o.res 2;have a7:wc.cell? ⟨b,0,QK⟩=QJ (XY false):=QX z.o.res 0;have a8:wc.cell? ⟨b,1,QK⟩=QJ (QQ QK 0 0):=QX z.o.res 1;have a9:wc.cell? ⟨b,2,QK⟩=QJ (QY QU 0):=QX z.o.res 2;clear hcut;go_wp2_with fail;have d:=ju_ (XY (bj_ s)) (QQ A n cp) (QY QU (S:Int)) z.o.res;have N:=q_ (gk_ (b:=b) (XY (bj_ s)) (QQ A n cp) (QY QU (S:Int)) z.o.below ac.o);have h5:=q_ (show (((wc.setCell ⟨b,0,QK⟩ (XY (bj_ s))).setCell ⟨b,1,QK⟩ (QQ A n cp)).setCell ⟨b,2,QK⟩ (QY QU (S:Int))).ownsRow (b+2) 3 1 (QQ A n cp) D.length (D.map λ(x:Nat)=>Value.int QU (x:Int)) from by have hn:(Value.slice A n cp).ownBlock≠QJ b:=cm_ z.o.row z.o.res (by decide);exact ownsRow_setCell_other (ownsRow_setCell_other (ownsRow_setCell_other z.o.row (a:=⟨b,0,QK⟩) hn _) (a:=⟨b,1,QK⟩) hn _) (a:=⟨b,2,QK⟩) hn _);obtain⟨B,M⟩:=a_ (((wc.setCell ⟨b,0,QK⟩ (XY (bj_ s))).setCell ⟨b,1,QK⟩ (QQ A n cp)).setCell ⟨b,2,QK⟩ (QY QU (S:Int)));rw[M.o]at d N h5 ⊢;have r0:B.cell? ⟨b,0,QK⟩=QJ (XY (bj_ s)):=QX d 0;have r1:B.cell? ⟨b,1,QK⟩=QJ (QQ A n cp):=QX d 1;have r2:B.cell? ⟨b,2,QK⟩=QJ (QY QU (S:Int)):=QX d 2;refine ZV (v:=ZJ #[.agg #[XY (bj_ s),QQ A n cp,QY QU (S:Int)],XY true]) (by simp[results,results289,go_sem,r0,r1,r2]) rfl ⟨N.o,?_⟩;rw[I.o];have h6:=h5.o;rw[<-HN.o]at h6 ⊢;exact⟨A,cp,rfl,xh_ h6⟩
        ·obtain⟨k,rfl⟩:∃k,i=k+1:=⟨i-1,by omega⟩;have b0:((k+1:Nat):Int)-1=(k:Int):=by push_cast;omega
         rw[b0];have G:=q_ (ep_ t k (by omega));obtain⟨x,hx⟩:∃x:Nat,t[k].toNat=x:=⟨_,rfl⟩;have R:=q_ hx;have b5:x<256:=by rw[<-hx];exact t[k].toNat_lt
         have e1:(0:Int)<=k:=by omega
         have w2:IntKind.i64.wrap ((k:Int)-1)=k-1:=YU _ (by omega);by_cases O:x=46
         ·subst O;have E:=q_ (show bf_ (t.data.toList.drop k)=bf_ (t.data.toList.drop (k+1)) from K1_ (by rw[G.o,UInt8.toNat_inj.1 (show t[k].toNat=(46:UInt8).toNat from R.o)]));go_wp2_with fail;go_roundw
          case rel=>exact⟨k,v,by omega,rfl,q_ (by rw[E.o];exact c.o)⟩
          case measure=>simp[intOf]
         ·have E:=q_ (show bf_ (t.data.toList.drop k)=bf_ (t.data.toList.drop (k+1))++[x-48] from by rw[<-R.o];exact G2_ G.o (λe=>O (by rw[<-R.o,e];rfl)))
          have ar:48<=x:=by
           rcases f.o _ (YZ G.o) with e | e
           ·exact absurd (by rw[<-R.o,e];rfl) O
           ·rw[R.o]at e;unfold b3_ at e;have:=of_decide_eq_true e;omega
          have X:((x:Int)==46)=false:=bN_.2 (by omega);obtain⟨y,HY⟩:=a_ (x-48);have r:x-48=y:=HY.o;rw[HY.o]at E;have w3:IntKind.u8.wrap ((x:Int)-48)=(y:Int):=by rw[IntWalk.u8_in _ (by omega)];omega
          have w4:IntKind.i64.wrap (y:Int)=(y:Int):=YU _ (by omega);obtain⟨D,a2⟩:=a_ (bf_ (t.data.toList.drop (k+1)));have ae:=q_ (n1_ (t.data.toList.drop (k+1)));rw[a2.o]at c E ae;obtain⟨n,HN⟩:=a_ D.length;have C:=q_ c.o.row;obtain⟨A,cp,hv⟩:=cp_ c.o.row;subst hv;rw[HN.o]at ae C;have bh:n<=4000000000000:=by have:=ae.o;rw[List.length_drop,al_]at this;omega
          have d1:wr.cell? ⟨b+1,1,QK⟩=QJ (QQ A n cp):=by rw[<-HN.o];exact QX c.o.num 1
          obtain⟨i0,az,b6,b7,b8⟩:=info_parts jh_;have NB:=q_ (XU wr (XX #[QY QU (y:Int)] 3));have ag:=q_ (show (wr.alloc (XX #[QY QU (y:Int)] 3)).heap.size=wr.heap.size+1 by simp);have au:=b_ c.o.num;have bf:k<t.size:=by omega
          clear r;go_wp2_with fail;go_region_law ((refine step_append_lies _ rfl _ _ 94 rfl (b+2) 3 i0 (QY QU 0) 1 8 underlying94 az b6 b7 b8 rfl (by decide) (QQ A n cp) n (D.map λ(x:Nat)=>Value.int QU (x:Int)) rfl (by first | exact x2_ (C.o.alloc _) | exact (x2_ C.o).alloc _) ⟨wr.heap.size,0,QK⟩ 1 1 [QY QU (y:Int)] rfl rfl (World.news_of_block (cs:=#[QY QU (y:Int)]) (by exact NB.o)) (l2_ _ _) (by omega) (by unfold maxLen;omega) (by omega) (by show b+2<=(wr.alloc (XX #[QY QU (y:Int)] 3)).heap.size;rw[ag.o];omega) (wr.heap.size+1) (by exact ag.o) (λg4 aq w4 ak T aj _=>?_);have ap:=q_ ak;have a3:=q_ (show wr.grownBy w4 (Value.slice A n cp).ownBlock from ak_ (w:=wr) (o:=XX #[QY QU (y:Int)] 3) ⟨T.os,T.tape,T.output,T.size,T.block⟩);have ao:=q_ (show (Value.slice A n cp).ownBlock=QJ g4\/g4=wr.heap.size+1 from aj);have a5:=q_ ((a3.o.block (b+1) au (λe=>cm_ C.o c.o.num (by decide) e.symm)).trans c.o.num);have f4:w4.frozen? ⟨b+1,1,QK⟩=false:=YY a5.o 1;have d4:w4.cell? ⟨b+1,1,QK⟩=QJ (QQ A D.length cp):=QX a5.o 1;clear ak T aj))
          all_goals
           go_wp2_with fail;go_roundw
           case rel=>
            have aw:g4≠b+1:=by
             rcases ao.o with h0 | h0
             ·exact λe=>cm_ C.o c.o.num (by decide) (by rw[h0,e])
             ·omega
            have ac:w.heap.size<=b:=by rw[J.o];exact XK b
            have b2:(Value.slice A n cp).ownBlock≠QJ b:=cm_ C.o c.o.res (by decide);refine⟨k,QQ (QJ ⟨g4,0,QK⟩) (n+1) aq,by omega,rfl,q_ ⟨?_,?_,heap_setCell_same w4 (b+1) 1 _ 277 _ a5.o,?_,?_⟩⟩
            ·refine (c.o.below.grown a3.o (by omega) ?_).setCell (p:=⟨b+1,1,none⟩) (by show w.heap.size<=b+1;omega) _;intro j Z;rcases C.o.2 with⟨h0,_⟩ | ⟨g,bb,bc,h0,hg,_⟩
             ·rw[h0]at Z;cases Z
             ·rw[h0]at Z;injection Z with Z;have Z:g=j:=Z;omega
            ·rw[heap_setCell_other _ _ _ _ (by show b≠b+1;omega)];exact (a3.o.block b (by omega) (λe=>b2 e.symm)).trans c.o.res
            ·rw[E.o,ZZ,List.map_append,HN.o];exact ownsRow_setCell_other ap.o (a:=⟨b+1,1,QK⟩) (λe=>aw (by injection e)) _
            ·have:=a3.o.size;simp;omega
           case measure=>simp[intOf]
def qo_ (D:List Nat) (S:Nat):Nat->Nat->Nat
 | 0,k=>k
 | f+1,k=>if k<S/\atD D k=0 then qo_ D S f (k+1) else k
def g2_ (D:List Nat) (S:Nat):Nat->Nat
 | 0=>0
 | h+1=>if S+1<h+1/\atD D h=0 then g2_ D S h else h+1
def lw_ (D:List Nat) (S:Nat):Nat:=qo_ D S S 0
def gg_ (D:List Nat) (S:Nat):Nat:=max (g2_ D S D.length) (S+1)
theorem Ln_ (D:List Nat) (S:Nat):∀f k,k+f<=S->qo_ D S f k<=S:=by
 intro f;induction f with
 | zero=>intro k h;exact h
 | succ f a=>intro k h;unfold qo_;split;exact a _ (by omega);omega
theorem Hq_ (D:List Nat) (S:Nat):∀h,g2_ D S h<=h:=by
 intro h;induction h with
 | zero=>exact XK _
 | succ h a=>unfold g2_;split;omega;omega
structure k5_ (w:QV) (b:Nat) (neg:Bool) (A:Option Addr) (n cap S:Nat) (D:List Nat) (wr:QV):Prop where
 below:XW w.heap.size w wr
 blk:wr.heap[b]?=QJ (XX #[XY neg,QQ A n cap,QY QU (S:Int)] 277 (0,0))
 ints:ac_ wr A D
 size:b+1<=wr.heap.size
theorem k5_.drewN {w wr:QV} {b n a S:Nat} {c:Bool} {A:Option Addr} {D:List Nat} (h:k5_ w b c A n a S D wr) (m:Nat):k5_ w b c A n a S D (wr.drewN m):=
 ⟨⟨h.below.os,h.below.tape,h.below.output,h.below.size,h.below.block⟩,h.blk,h.ints,h.size⟩
def zo_ (L:List UInt8):List XJ:=L.map λc=>Value.int .u8 (c.toNat:Int)
structure ds_ (w:QV) (b:Nat) (neg:Bool) (A:Option Addr) (n cap S:Nat) (D:List Nat) (L:List UInt8) (v:XJ) (wr:QV):Prop where
 form:k5_ w b neg A n cap S D wr
 row:wr.ownsRow (b+1) 5 1 v L.length (zo_ L)
theorem ds_.drewN {w wr:QV} {b n a S:Nat} {c:Bool} {A:Option Addr} {D:List Nat} {L:List UInt8} {v:XJ} (h:ds_ w b c A n a S D L v wr) (m:Nat):ds_ w b c A n a S D L v (wr.drewN m):=
 ⟨h.form.drewN m,h.row⟩
theorem ds_.app {w wr a:QV} {b n d S:Nat} {f:Bool} {A:Option Addr} {D:List Nat} {L:List UInt8} {v i:XJ} (h:ds_ w b f A n d S D L v wr) (j:ac_ w A D) (p:w.heap.size<=b) (g:wr.grownBy a v.ownBlock) {c:UInt8} (o:a.ownsRow (b+1) 5 1 i (L.length+1) (zo_ L++[QY .u8 (c.toNat:Int)])) :
    ds_ w b f A n d S D (L++[c]) i a:=by
 have hb:XW w.heap.size w a:=h.form.below.grown g (by have:=h.form.size;omega) (λk m=>by have:=(h.row.lt k m).1;omega);refine⟨⟨hb,?_,j.under hb,ZX h.form.size g.size⟩,?_⟩
 ·exact (g.block b (by have:=h.form.size;omega) (λe=>cm_ h.row h.form.blk (by decide) e.symm)).trans h.form.blk
 ·rw[ZZ];unfold zo_;rw[List.map_append];exact o
def bq_ (D:List Nat) (S:Nat):Bool:=decide (40<gg_ D S-S) || decide (20<S-lw_ D S)
def wk_ (y:Nat):UInt8:=UInt8.ofNat (48+y)
def cq_ (D:List Nat) (hi lo:Nat):List UInt8:=(List.range (hi-lo)).map λj=>wk_ (atD D (hi-1-j))
theorem cl_ (D:List Nat) (hi lo:Nat):(cq_ D hi lo).length=hi-lo:=by unfold cq_;simp
theorem nf_ (D:List Nat) (hi:Nat):cq_ D hi hi=[]:=by unfold cq_;simp
theorem p9_ (D:List Nat) {hi j:Nat} (h:j<hi):cq_ D hi j=cq_ D hi (j+1)++[wk_ (atD D j)]:=by unfold cq_;rw[show hi-j=(hi-(j+1))+1 by omega,List.range_succ,List.map_append];simp only[List.map_cons,List.map_nil];rw[show hi-1-(hi-(j+1))=j by omega]
theorem p7_ {y:Nat} (h:y<=9):(wk_ y).toNat=48+y:=by unfold wk_;rw[UInt8.toNat_ofNat'];exact Nat.mod_eq_of_lt (by omega)
def iv_ (a:Bool) (D:List Nat) (S:Nat):ByteArray:=
 ⟨(cond (a && !gm_ D) [45] []++cq_ D (gg_ D S) S++[46]++cq_ D S (lw_ D S)++cond (decide (lw_ D S=S)) [48] []:List UInt8).toArray⟩
def Mz_ (a:Bool) (D:List Nat) (S:Nat) (w:QV) (e:Ending) (w':QV):Prop:=XW w.heap.size w w' /\
 e = YQ (ZJ #[QZ (cond (bq_ D S) ⟨#[]⟩ (iv_ a D S)),QY QU (cond (bq_ D S) 2 0)])
theorem Hm_ (d:Bool) (D:List Nat) (S:Nat) (hD:D.length<=4000000000000) (hS:S<=4000000000000) (h9:∀i,atD D i<=9) (A:Option Addr) (a:Nat) (w:QV) (h:ac_ w A D) :
    Calls QW 298 #[.agg #[XY d,QQ A D.length a,QY QU (S:Int)]] w (Mz_ d D S w):=by
 have HI:=q_ h;have H9:=q_ h9;clear h h9;obtain⟨n,X⟩:=a_ D.length;rw[X.o]at hD ⊢;go_enter func298,ntmps298
 go_wp2_with fail
 have hm:=q_ (show k5_ w w.heap.size d A n a S D (w.alloc (XX #[XY d,QQ A n a,QY QU (S:Int)] 277)) from
  ⟨(XV _ _).alloc (XK _) _,XU w _,HI.o.under ((XV _ _).alloc (XK _) _),by simp⟩)
 obtain⟨b,G⟩:=a_ w.heap.size;obtain⟨w1,ap⟩:=a_ (w.alloc (XX #[XY d,QQ A n a,QY QU (S:Int)] 277));rw[G.o,ap.o]at hm;rw[G.o,ap.o];go_loopw [4] (λs4 wr=>∃k:Nat,k<=S/\s4 = QY QU (k:Nat)/\Q_ (lw_ D S=qo_ D S (S-k) k)/\Q_ (k5_ w b d A n a S D wr)) (λs4 _=>S-(intOf s4).toNat)
 case atStart=>exact⟨0,by omega,rfl,q_ rfl,hm⟩
 case round=>
  obtain⟨k,hk,rfl,a3,hr⟩:=hrel;have c0:wr.cell? ⟨b,0,QK⟩=QJ (XY d):=QX hr.o.blk 0;have P:wr.cell? ⟨b,1,QK⟩=QJ (QQ A n a):=QX hr.o.blk 1;have c2:wr.cell? ⟨b,2,QK⟩=QJ (QY QU (S:Int)):=QX hr.o.blk 2;have s:=q_ (in_ D A a k (by omega) wr hr.o.ints);rw[X.o]at s;obtain⟨y,J⟩:=a_ (atD D k);rw[J.o]at s;go_upto_region 2 with fail;go_cut [19] (λb8 E=>b8 = XY (decide (k<S/\y=0))/\k5_ w b d A n a S D E)
  case first=>
   by_cases R:k<S
   ·by_cases U:y=0
    ·have hb:=q_ (show Value.bool (decide (k<S/\y=0)) = XY true by rw[dT_ ⟨R,U⟩]);subst U;go_wp2_with fail;refine s.o.mono ?_;rintro e w' ⟨rfl,m,rfl⟩;go_wp2_with fail;go_meet;exact⟨hb.o.symm,hr.o.drewN m⟩
    ·have hb:=q_ (show Value.bool (decide (k<S/\y=0)) = XY false by rw[dF_ (λh=>U h.2)]);have e1:((y:Int)==0)=false:=bN_.2 (by omega);clear U;go_wp2_with fail;refine s.o.mono ?_;rintro e w' ⟨rfl,m,rfl⟩;go_wp2_with fail;go_meet;exact⟨hb.o.symm,hr.o.drewN m⟩
   ·have hb:=q_ (show Value.bool (decide (k<S/\y=0)) = XY false by rw[dF_ (λh=>R h.1)]);go_wp2_with fail;go_meet;exact⟨hb.o.symm,hr.o⟩
  case rest=>
   rename QV=>w2
   obtain⟨a7,az⟩:=hcut;have HR:=q_ az;clear az c0 P c2;by_cases C:k<S/\y=0
   ·rw[dT_ C]at a7;subst a7;have a4:=q_ (show lw_ D S=qo_ D S (S-(k+1)) (k+1) from by rw[a3.o,show S-k=(S-(k+1))+1 by omega];exact iP_ ⟨C.1,by rw[J.o];exact C.2⟩);go_wp2_with fail;go_roundw
    case rel=>exact⟨k+1,by omega,by go_num,a4,q_ HR.o⟩
    case measure=>simp[intOf];omega
   ·rw[dF_ C]at a7;subst a7
    have ay:=q_ (show lw_ D S=k from by
     rw[a3.o]
     cases hf:S-k with
     | zero=>rfl
     | succ f=>exact iN_ (by rw[J.o];exact C))
    clear C a3 s;have P:w2.cell? ⟨b,1,QK⟩=QJ (QQ A n a):=QX HR.o.blk 1;go_wp2_with fail;go_loopw [5] (λs5 wr=>∃h:Nat,h<=n/\s5 = QY QU (h:Nat)/\Q_ (g2_ D S n=g2_ D S h)/\Q_ (k5_ w b d A n a S D wr)) (λs5 _=>(intOf s5).toNat)
    case atStart=>exact⟨n,by omega,rfl,q_ rfl,HR⟩
    case round=>
     obtain⟨h,hh,rfl,af,t⟩:=hrel;have P:wr.cell? ⟨b,1,QK⟩=QJ (QQ A n a):=QX t.o.blk 1;have c2:wr.cell? ⟨b,2,QK⟩=QJ (QY QU (S:Int)):=QX t.o.blk 2;have w1:IntKind.i64.wrap ((S:Int)+1)=S+1:=YU _ (by omega);go_upto_region 5 with fail;go_cut [38] (λb9 E=>b9 = XY (decide (S+1<h/\atD D (h-1)=0))/\E=wr)
     case first=>
      by_cases ar:S+1<h
      ·obtain⟨j,hj⟩:∃j,h=j+1:=⟨h-1,by omega⟩;have w3:IntKind.i64.wrap ((h:Int)-1)=j:=by rw[YU _ (by omega)];omega
       have aw:j<D.length:=by rw[X.o];omega
       obtain⟨ad,rfl,_,hc⟩:=t.o.ints j _ (XQ aw);have ha:atD D (h-1)=D[j]:=by rw[hj];unfold atD;rw[show j+1-1=j by omega,XQ aw];rfl
       obtain⟨y,J⟩:=a_ D[j];rw[J.o]at hc ha;have HA:=q_ ha;have e1:(0:Int)<=j:=by omega
       have e2:(j:Int)<n:=by omega
       have HJ:=q_ hj;clear ha hj;by_cases U:y=0
       ·have hb:=q_ (show Value.bool true=Value.bool (decide (S+1<h/\atD D (h-1)=0)) by rw[dT_ ⟨ar,HA.o.trans U⟩]);subst U;go_wp2_with fail;go_meet;exact⟨hb.o,rfl⟩
       ·have hb:=q_ (show Value.bool (decide (S+1<h/\y=0)) = XY false by rw[dF_ (λx=>U x.2)]);have e3:((y:Int)==0)=false:=bN_.2 (by omega);clear U;go_wp2_with fail;go_meet;exact⟨by rw[HA.o];exact hb.o.symm,rfl⟩
      ·have hb:=q_ (show Value.bool (decide (S+1<h/\atD D (h-1)=0)) = XY false by rw[dF_ (λx=>ar x.1)]);go_wp2_with fail;go_meet;exact⟨hb.o.symm,rfl⟩
     case rest=>
      obtain⟨a8,rfl⟩:=hcut;by_cases C:S+1<h/\atD D (h-1)=0
      ·rw[dT_ C]at a8;subst a8;have bf:1<=h:=by omega
       have a4:=q_ (show g2_ D S n=g2_ D S (h-1) from by rw[af.o];obtain⟨j,rfl⟩:∃j,h=j+1:=⟨h-1,by omega⟩;exact iP_ C);have w3:IntKind.i64.wrap ((h:Int)-1)=((h-1:Nat):Int):=by rw[YU _ (by omega)];omega
       clear C;go_wp2_with fail;go_roundw
       case rel=>exact⟨h-1,by omega,rfl,a4,q_ t.o⟩
       case measure=>simp[intOf];omega
      ·rw[dF_ C]at a8;subst a8
       have au:=q_ (show g2_ D S n=h from by
        rw[af.o]
        cases h with
        | zero=>rfl
        | succ j=>exact iN_ C)
       have a9:=q_ (show gg_ D S=max h (S+1) from by unfold gg_;rw[X.o,au.o]);clear C af P;go_upto_if 44 with fail;go_cut [5] (λs5 E=>s5 = QY QU ((gg_ D S:Nat):Int)/\E=wc)
       case first=>
        by_cases bi:h<=S
        ·have hm:=q_ (show Value.int QU ((S:Int)+1) = QY QU ((gg_ D S:Nat):Int) from by rw[a9.o,show max h (S+1)=S+1 by omega];push_cast;rfl);go_wp2_with fail;go_meet;exact⟨hm.o,rfl⟩
        ·have hm:=q_ (show Value.int QU (h:Int) = QY QU ((gg_ D S:Nat):Int) from by rw[a9.o,show max h (S+1)=h by omega]);go_wp2_with fail;go_meet;exact⟨hm.o,rfl⟩
       case rest=>
        rename QV=>w5
        obtain⟨h5,rfl⟩:=hcut;obtain⟨hi,HH⟩:=a_ (gg_ D S);rw[HH.o]at h5;subst h5;have av:=q_ (show S+1<=hi/\hi<=max n (S+1) from by rw[<-HH.o,a9.o];exact⟨by omega,by omega⟩);have h1:S+1<=hi:=av.o.1;have h2:hi<=4000000000001:=by have:=av.o.2;omega
        have w6:IntKind.i64.wrap ((hi:Int)-S)=((hi-S:Nat):Int):=by rw[YU _ (by omega)];omega
        have w7:IntKind.i64.wrap ((S:Int)-k)=((S-k:Nat):Int):=by rw[YU _ (by omega)];omega
        have ho:=q_ (show bq_ D S=(decide (40<hi-S) || decide (20<S-k)) from by unfold bq_;rw[HH.o,ay.o]);obtain⟨fo,a5⟩:=a_ (bq_ D S);rw[a5.o]at ho;have c0:w5.cell? ⟨b,0,QK⟩=QJ (XY d):=QX t.o.blk 0;have P:w5.cell? ⟨b,1,QK⟩=QJ (QQ A n a):=QX t.o.blk 1;go_upto_region 9 with fail;go_cut [59] (λba E=>ba = XY fo/\E=w5)
        case first=>
         by_cases a1:40<hi-S
         ·have e1:decide ((40:Int)<((hi-S:Nat):Int))=true:=dT_ (by omega);have hf:=q_ (show fo=true from by rw[ho.o,dT_ a1];rfl);go_wp2_with fail;go_meet;exact⟨by rw[hf.o],rfl⟩
         ·have hf:=q_ (show (decide ((40:Int)<((hi-S:Nat):Int)) || decide ((20:Int)<((S-k:Nat):Int)))=fo from by rw[ho.o,decide_eq_decide.2 (show (40:Int)<((hi-S:Nat):Int)↔40<hi-S by omega),decide_eq_decide.2 (show (20:Int)<((S-k:Nat):Int)↔20<S-k by omega)]);go_wp2_with fail;go_meet;exact⟨by rw[hf.o],rfl⟩
        case rest=>
         obtain⟨aq,rfl⟩:=hcut
         cases fo with
         | true=>
          subst aq;go_wp2_with fail;exact ZV (v:=ZJ #[QZ ⟨#[]⟩,QY QU 2]) (by simp[results,results298,go_sem]) rfl ⟨t.o.below,by rw[a5.o];rfl⟩
         | false=>
          subst aq;have bc:hi-S<=40/\S-k<=20:=by have:=ho.o.symm;rw[Bool.or_eq_false_iff,decide_eq_false_iff_not,decide_eq_false_iff_not]at this;omega
          have c0:wc.cell? ⟨b,0,QK⟩=QJ (XY d):=QX t.o.blk 0;have P:wc.cell? ⟨b,1,QK⟩=QJ (QQ A n a):=QX t.o.blk 1;have hz:=q_ (zd_ D (by rw[X.o];exact hD) A a wc t.o.ints);rw[X.o]at hz;obtain⟨zb,HZ⟩:=a_ (gm_ D);rw[HZ.o]at hz;clear ho w6 w7 a9 au c2;go_upto_region 12 with fail;go_cut [67] (λbb E=>bb = XY (d && !zb)/\k5_ w b d A n a S D E)
          case first=>
           cases d with
           | false=>
            go_wp2_with fail;go_meet;exact⟨rfl,t.o⟩
           | true=>
            go_wp2_with fail;refine hz.o.mono ?_;rintro e w' ⟨rfl,m,rfl⟩
            go_wp2_with fail;go_meet;exact⟨rfl,t.o.drewN m⟩
          case rest=>
           rename QV=>w6
           obtain⟨Z,b0⟩:=hcut;have ae:=q_ b0;clear b0 hz c0 P;have bd:=ae.o.size;go_upto_if 67 with fail;go_cut [6] (λs6 E=>ds_ w b d A n a S D (cond (d && !zb) [45] []) s6 E)
           case first=>
            cases hcase:d && !zb with
            | true=>
             rw[hcase]at Z;subst Z;have H0:=q_ (World.ownsRow_nil w6 (b+1) 5 1);go_wp2_with (at_builtin;refine c5_ rfl _ _ 197 rfl (b+1) 5 (QY .u8 0) 1 1 underlying197 infoByte rfl (by decide) _ _ _ rfl H0.o (by omega) #[QY .u8 45] 1 1 rfl rfl (hq_ _) (by omega) (by omega) (by decide) ?_;intro g4 a6 w4 q p B;have Y:=q_ q;have V:=q_ p;clear q p B)
             go_meet;rw[hcase];exact ds_.app (L:=[]) ⟨ae.o,H0.o⟩ HI.o (by rw[G.o];exact XK b) V.o (c:=45) Y.o
            | false=>
             rw[hcase]at Z;subst Z;go_wp2_with fail;go_meet;rw[hcase];exact⟨ae.o,World.ownsRow_nil w6 (b+1) 5 1⟩
           case rest=>
            have am:=q_ hcut;clear hcut Z;obtain⟨L0,ab⟩:=a_ (cond (d && !zb) [(45:UInt8)] []);have bg:L0.length<=1:=by rw[<-ab.o];cases (d && !zb)<;>simp
            rw[ab.o]at am;have w8:IntKind.i64.wrap ((hi:Int)-1)=(hi:Int)-1:=YU _ (by omega);go_wp2_with fail;go_loopw [6,7] (λs6 s7 wr=>∃i:Nat,S<=i/\i<=hi/\s7 = QY QU ((i:Int)-1)/\Q_ (ds_ w b d A n a S D (L0++cq_ D hi i) s6 wr)) (λ_ s7 _=>(intOf s7+1).toNat)
            case atStart=>exact⟨hi,by omega,XK _,rfl,q_ (by rw[nf_,List.append_nil];exact am.o)⟩
            case round=>
             obtain⟨i,b6,b7,rfl,g⟩:=hrel;have P:wr.cell? ⟨b,1,none⟩=some (QQ A n a):=QX g.o.form.blk 1;have c2:wr.cell? ⟨b,2,none⟩=some (QY QU (S:Int)):=QX g.o.form.blk 2;by_cases R:S<i
             ·obtain⟨j,rfl⟩:∃j,i=j+1:=⟨i-1,by omega⟩;have ag:((j+1:Nat):Int)-1=(j:Int):=by push_cast;omega
              rw[ag];have ah:S<=j:=by omega
              have w9:IntKind.i64.wrap ((j:Int)-1)=(j:Int)-1:=YU _ (by omega);have s:=q_ (in_ D A a j (by omega) wr g.o.form.ints);rw[X.o]at s;have O:=q_ (p9_ D (show j<hi by omega));obtain⟨y,J⟩:=a_ (atD D j);have ak:y<=9:=by rw[<-J.o];exact H9.o j
              rw[J.o]at s O;obtain⟨c,HC⟩:=a_ (wk_ y);have N:c.toNat=48+y:=by rw[<-HC.o];exact p7_ ak
              rw[HC.o]at O;obtain⟨L,HL⟩:=a_ (L0++cq_ D hi (j+1));have b4:L.length<=50:=by rw[<-HL.o,ZZ,cl_];omega
              rw[HL.o]at g;obtain⟨e,He⟩:=a_ c.toNat;have v1:IntKind.i64.wrap (48+(y:Int))=(e:Int):=by rw[YU _ (by omega),<-He.o,N];push_cast;rfl
              have v2:IntKind.u8.wrap (e:Int)=(e:Int):=IntWalk.u8_in _ (by rw[<-He.o,N];omega);clear N;go_wp2_with fail;refine s.o.mono ?_;rintro e' w' ⟨rfl,m,rfl⟩;have z:=q_ (g.o.drewN m);have r:=q_ z.o.row;have a2:=z.o.form.size;obtain⟨W,HW⟩:=a_ (wr.drewN m);rw[HW.o]at z r a2 ⊢;go_wp2_with (at_builtin;refine c5_ rfl _ _ 197 rfl (b+1) 5 (QY .u8 0) 1 1 underlying197 infoByte rfl (by decide) _ _ _ rfl r.o (by omega) #[QY .u8 (e:Int)] 1 1 rfl rfl (hq_ _) (by omega) (by omega) (by decide) ?_;intro g4 a6 w4 q p B;have Y:=q_ q;have V:=q_ p;clear q p B)
              go_roundw
              case rel=>
               refine⟨j,ah,by omega,rfl,q_ ?_⟩;rw[O.o,<-UW,HL.o];exact ds_.app z.o HI.o (by rw[G.o];exact XK b) V.o (by rw[He.o];exact Y.o)
              case measure=>simp[intOf]
             ·have a0:i=S:=by omega
              rw[a0]at g ⊢;obtain⟨L,HL⟩:=a_ (L0++cq_ D hi S);have b4:L.length<=50:=by rw[<-HL.o,ZZ,cl_];omega
              rw[HL.o]at g;have r:=q_ g.o.row;have a2:=g.o.form.size;have bj:IntKind.i64.wrap ((S:Int)-1)=(S:Int)-1:=YU _ (by omega);clear R a0;go_wp2_with (at_builtin;refine c5_ rfl _ _ 197 rfl (b+1) 5 (QY .u8 0) 1 1 underlying197 infoByte rfl (by decide) _ _ _ rfl r.o (by omega) #[QY .u8 46] 1 1 rfl rfl (hq_ _) (by omega) (by omega) (by decide) ?_;intro g4 a6 w4 q p B;have aa:=q_ (ds_.app g.o HI.o (by rw[G.o];exact XK b) p (c:=46) q);have d2:w4.cell? ⟨b,2,QK⟩=QJ (QY QU (S:Int)):=QX aa.o.form.blk 2;clear q p B)
              obtain⟨L1,ac⟩:=a_ (L++[(46:UInt8)]);have bh:L1.length<=51:=by rw[<-ac.o,ZZ];simp;omega
              rw[ac.o]at aa;go_loopw [6,8] (λs6 s8 wr=>∃i:Nat,k<=i/\i<=S/\s8 = QY QU ((i:Int)-1)/\Q_ (ds_ w b d A n a S D (L1++cq_ D S i) s6 wr)) (λ_ s8 _=>(intOf s8+1).toNat)
              case atStart=>exact⟨S,hk,XK _,rfl,q_ (by rw[nf_,List.append_nil];exact aa.o)⟩
              case round=>
               obtain⟨i,b6,b7,rfl,g⟩:=hrel;have P:wr.cell? ⟨b,1,none⟩=some (QQ A n a):=QX g.o.form.blk 1;have c2:wr.cell? ⟨b,2,none⟩=some (QY QU (S:Int)):=QX g.o.form.blk 2;by_cases R:k<i
               ·obtain⟨j,rfl⟩:∃j,i=j+1:=⟨i-1,by omega⟩;have ag:((j+1:Nat):Int)-1=(j:Int):=by push_cast;omega
                rw[ag];have ah:k<=j:=by omega
                have w9:IntKind.i64.wrap ((j:Int)-1)=(j:Int)-1:=YU _ (by omega);have s:=q_ (in_ D A a j (by omega) wr g.o.form.ints);rw[X.o]at s;have O:=q_ (p9_ D (show j<S by omega));obtain⟨y,J⟩:=a_ (atD D j);have ak:y<=9:=by rw[<-J.o];exact H9.o j
                rw[J.o]at s O;obtain⟨c,HC⟩:=a_ (wk_ y);have N:c.toNat=48+y:=by rw[<-HC.o];exact p7_ ak
                rw[HC.o]at O;obtain⟨M,I⟩:=a_ (L1++cq_ D S (j+1));have b1:M.length<=100:=by rw[<-I.o,ZZ,cl_];omega
                rw[I.o]at g;obtain⟨e,He⟩:=a_ c.toNat;have v1:IntKind.i64.wrap (48+(y:Int))=(e:Int):=by rw[YU _ (by omega),<-He.o,N];push_cast;rfl
                have v2:IntKind.u8.wrap (e:Int)=(e:Int):=IntWalk.u8_in _ (by rw[<-He.o,N];omega);clear N;go_wp2_with fail;refine s.o.mono ?_;rintro e' w' ⟨rfl,m,rfl⟩;have z:=q_ (g.o.drewN m);have r:=q_ z.o.row;have a2:=z.o.form.size;obtain⟨W,HW⟩:=a_ (wr.drewN m);rw[HW.o]at z r a2 ⊢;go_wp2_with (at_builtin;refine c5_ rfl _ _ 197 rfl (b+1) 5 (QY .u8 0) 1 1 underlying197 infoByte rfl (by decide) _ _ _ rfl r.o (by omega) #[QY .u8 (e:Int)] 1 1 rfl rfl (hq_ _) (by omega) (by omega) (by decide) ?_;intro g4 a6 w4 q p B;have Y:=q_ q;have V:=q_ p;clear q p B)
                go_roundw
                case rel=>
                 refine⟨j,ah,by omega,rfl,q_ ?_⟩;rw[O.o,<-UW,I.o];exact ds_.app z.o HI.o (by rw[G.o];exact XK b) V.o (by rw[He.o];exact Y.o)
                case measure=>simp[intOf]
               ·have a0:i=k:=by omega
                rw[a0]at g ⊢;clear R a0;obtain⟨M,I⟩:=a_ (L1++cq_ D S k);have b1:M.length<=100:=by rw[<-I.o,ZZ,cl_];omega
                rw[I.o]at g;have r:=q_ g.o.row;have a2:=g.o.form.size;clear P;go_upto_if 111 with fail;go_cut [6] (λs6 E=>ds_ w b d A n a S D (M++cond (decide (k=S)) [48] []) s6 E)
                case first=>
                 by_cases ai:k=S
                 ·have e1:((k:Int)==(S:Int))=true:=beq_iff_eq.2 (by omega);have hc:=q_ (show M++cond (decide (k=S)) [(48:UInt8)] []=M++[48] by rw[dT_ ai];rfl);clear ai;go_wp2_with (at_builtin;refine c5_ rfl _ _ 197 rfl (b+1) 5 (QY .u8 0) 1 1 underlying197 infoByte rfl (by decide) _ _ _ rfl r.o (by omega) #[QY .u8 48] 1 1 rfl rfl (hq_ _) (by omega) (by omega) (by decide) ?_;intro g4 a6 w4 q p B;have b2:=q_ (ds_.app g.o HI.o (by rw[G.o];exact XK b) p (c:=48) q);clear q p B)
                  go_meet;rw[hc.o];exact b2.o
                 ·have e1:((k:Int)==(S:Int))=false:=bN_.2 (by omega);have hc:=q_ (show M++cond (decide (k=S)) [(48:UInt8)] []=M by rw[dF_ ai];exact List.append_nil _);go_wp2_with fail;go_meet;rw[hc.o];exact g.o
                case rest=>
                 have ao:=q_ hcut;clear hcut r;have b5:=wf_ (l:=M++cond (decide (k=S)) [48] []) ao.o.row;have aj:=q_ (show rf_ (M++cond (decide (k=S)) [48] [])=cond (bq_ D S) ⟨#[]⟩ (iv_ d D S) from by rw[a5.o,<-I.o,<-ac.o,<-HL.o,<-ab.o];unfold iv_ rf_;rw[HZ.o,HH.o,ay.o];simp);obtain⟨T,b3⟩:=a_ (rf_ (M++cond (decide (k=S)) [48] []));rw[b3.o]at b5 aj;go_wp2_with fail;exact ZV (v:=ZJ #[QZ T,QY QU 0]) (by simp[results,results298,go_sem]) rfl ⟨ao.o.form.below,by rw[aj.o,a5.o];rfl⟩
theorem Dc_ {l:List UInt8} (h:∀c∈l,c=46\/b3_ c.toNat=true):∀x∈bf_ l,x<=9:=by
 induction l with
 | nil=>intro x a;cases a
 | cons c l f=>
  intro x a;unfold bf_ at a;rcases List.mem_append.1 a with a | a
  ·exact f (λd b=>h d (List.mem_cons_of_mem _ b)) x a
  ·cases hc:c==46 with
   | true=>rw[hc]at a;cases a
   | false=>
    rw[hc]at a;have a:x∈[c.toNat-48]:=a;rw[List.mem_singleton]at a;rcases h c VJ with e | e
    ·rw[e]at hc;cases hc
    ·unfold b3_ at e;have:=of_decide_eq_true e;omega
theorem hr_ {s:ByteArray} {a:Bool} {D:List Nat} {S:Nat} (h:c4_ s=QJ (a,D,S)):(∀i,atD D i<=9)/\D.length<=s.size/\S<=s.size:=by
 unfold c4_ at h
 cases hp:aq_ (bt_ s).data.toList 0 none with
 | none=>rw[hp]at h;cases h
 | some p=>
  rw[hp]at h;simp only at h
  cases hc:(decide ((bt_ s).size=0) || p==some 0 || p==some ((bt_ s).size-1)) with
  | true=>rw[hc]at h;cases h
  | false=>
   rw[hc]at h;have h:QJ (bj_ s,bf_ (bt_ s).data.toList,k0_ (bt_ s).size p)=QJ (a,D,S):=h;injection h with h;injection h with _ h;injection h with hD hS;have b:=rd_ s;refine⟨λi=>?_,?_,?_⟩
   ·unfold atD
    cases hi:D[i]? with
    | none=>simp
    | some x=>exact Dc_ (Iz_ hp) x (by rw[hD];exact YZ hi)
   ·have:=n1_ (bt_ s).data.toList;rw[hD,al_]at this;omega
   ·rw[<-hS]
    cases p with
    | none=>exact Nat.zero_le _
    | some i=>show (bt_ s).size-1-i<=s.size;omega
def cu_ (s:ByteArray):ByteArray×Int:=
 match c4_ s with
 | none=>(⟨#[]⟩,6)
 | some (neg,D,S)=>(cond (bq_ D S) ⟨#[]⟩ (iv_ neg D S),cond (bq_ D S) 2 0)
def bl_ (s:ByteArray):Bool:=decide ((cu_ s).2=0)&&decide ((cu_ s).1=s)
def Nb_ (s:ByteArray) (w:QV) (e:Ending) (w':QV):Prop:=XW w.heap.size w w'/\e = YQ (ZJ #[QZ (cu_ s).1,QY QU (cu_ s).2])
theorem yd_ (s:ByteArray) (m:s.size<=4000000000000) (w:QV):Calls QW 257 #[QZ s] w (Nb_ s w):=by
 go_enter func257,ntmps257
 go_wp2_with fail;refine (kt_ s m _).mono ?_;rintro e h ⟨hb,a⟩
 cases hp:c4_ s with
 | none=>
  rw[hp]at a;have a:e = YQ (ZJ #[.agg #[XY false,QQ QK 0 0,QY QU 0],XY false]):=a;subst a;have g:=q_ (show cu_ s=(⟨#[]⟩,6) from by unfold cu_;rw[hp]);have f:=q_ (hb.alloc hb.size (XX #[XY false,QQ QK 0 0,QY QU 0] 277));clear hp hb;go_wp2_with fail;exact ZV (v:=ZJ #[QZ ⟨#[]⟩,QY QU 6]) (by simp[results,results257,go_sem]) rfl ⟨f.o,by rw[g.o]⟩
 | some r=>
  obtain⟨b,D,S⟩:=r;rw[hp]at a;obtain⟨A,c,a,hi⟩:=a;subst a;obtain⟨i,q,p⟩:=hr_ hp;have g:=q_ (show cu_ s=(cond (bq_ D S) ⟨#[]⟩ (iv_ b D S),cond (bq_ D S) 2 0) from by unfold cu_;rw[hp]);have f:=q_ (hb.alloc hb.size (XX #[XY b,QQ A D.length c,QY QU (S:Int)] 277));have k:=q_ (Hm_ b D S (by omega) (by omega) i A c (h.alloc (XX #[XY b,QQ A D.length c,QY QU (S:Int)] 277)) (hi.under ((XV h.heap.size h).alloc (XK _) _)));have j:=q_ hb.size;clear hp hb i hi;go_wp2_with fail;refine k.o.mono ?_;rintro e w2 ⟨d,rfl⟩;have d:=q_ d;go_wp2_with fail;exact ZV (v:=ZJ #[QZ (cu_ s).1,QY QU (cu_ s).2]) (by rw[g.o];simp[results,results257,go_sem]) rfl ⟨f.o.trans (d.o.mono (by have:=j.o;simp;omega)),rfl⟩
theorem hv_ (s:ByteArray) (i:s.size<=4000000000000) (w:QV):Calls QW 190 #[QZ s] w (n_ (bl_ s) w):=by
 go_enter func190,ntmps190
 go_wp2_with fail;refine (yd_ s i _).mono ?_;rintro e j ⟨hb,rfl⟩;have f:=q_ hb;obtain⟨c,d⟩:=a_ (cu_ s).1;obtain⟨h,a⟩:=a_ (cu_ s).2;rw[d.o,a.o];have g:=q_ (show bl_ s=(decide (h=0)&&decide (c=s)) from by unfold bl_;rw[d.o,a.o]);clear hb;by_cases h2:h=0
 ·have b:=q_ (show (c.toList==s.toList)=bl_ s from by
    rw[g.o,dT_ h2];by_cases h1:c=s
    ·rw[dT_ h1,h1];simp
    ·rw[dF_ h1,br_ h1];rfl)
  clear a;subst h2;go_wp2_with fail;go_ret;exact⟨p_ b.o,f.o⟩
 ·have b:=q_ (show false=bl_ s from by rw[g.o,dF_ h2];rfl);go_wp2_with fail;go_ret;exact⟨p_ b.o,f.o⟩
end
section
open Go Go.RowKit Go.Shelf Go.Lib
def ten:List UInt8:=[48,49,50,51,52,53,54,55,56,57]
theorem Mb_ (s:ByteArray) (w:QV) (b:s.size<=9223372036854775807) :
    Calls QW 324 #[QZ s,QZ ⟨#[48,49,50,51,52,53,54,55,56,57]⟩] w λe w'=>e = YQ (QZ ⟨(Lib.trimS s.data.toList ten).toArray⟩)/\XW w.heap.size w w':=by
 have a:=Any.strings_Trim_laid Tryz.lays160 (by kernel_rfl) s ⟨#[48,49,50,51,52,53,54,55,56,57]⟩ w b (by decide) (ascii_of_all (by decide));exact a
theorem Fc_ (s:ByteArray) (w:QV) (b:s.size<=9223372036854775807) :
    Calls QW 326 #[QZ s,QZ ⟨#[48]⟩] w λe w'=>e = YQ (QZ ⟨(Lib.trimRightS s.data.toList [48]).toArray⟩)/\XW w.heap.size w w':=by
 have a:=Any.strings_TrimRight_laid Tryz.lays162 (by kernel_rfl) s ⟨#[48]⟩ w b (by decide) (ascii_of_all (by decide));exact a
theorem Fb_ (s:ByteArray) (w:QV) :
    Calls QW 327 #[QZ s,QZ ⟨#[48]⟩] w λe w'=>e = YQ (QZ ⟨(Lib.trimLeftS s.data.toList [48]).toArray⟩)/\XW w.heap.size w w':=by
 have a:=Any.strings_TrimLeft_laid Tryz.lays161 (by kernel_rfl) s ⟨#[48]⟩ w (by decide) (ascii_of_all (by decide));exact a
def D6_ (s:ByteArray):Bool:=!s.toList.isEmpty&&((⟨(Lib.trimS s.data.toList ten).toArray⟩:ByteArray)).toList.isEmpty
theorem n8_ (s:ByteArray) (w:QV) (g:s.size<=9223372036854775807):Calls QW 296 #[QZ s] w (n_ (D6_ s) w):=by
 have ht:=Mb_ s w g;obtain⟨r,a⟩:=a_ (⟨(Lib.trimS s.data.toList ten).toArray⟩:ByteArray);have b:=q_ (show D6_ s=(!s.toList.isEmpty&&r.toList.isEmpty) from by unfold D6_;rw[a.o]);rw[a.o]at ht;have c:=q_ ht;clear ht;go_enter func296,ntmps296
 by_cases h0:s.toList=[]
 ·have f:=q_ (show false=D6_ s from by rw[b.o,h0];rfl);go_wp2_with fail;go_ret;exact⟨p_ f.o,XV _ _⟩
 ·go_wp2_with (go_at_call 324;refine c.o.mono ?_;rintro e w' ⟨rfl,d⟩)
  go_ret;exact⟨p_ b.o.symm,d⟩
theorem q0_ (s p:ByteArray) (w:QV):Calls QW 294 #[QZ s,QZ p] w λe w'=>e = YQ (XY (Lib.hasPrefix s.data.toList p.data.toList))/\w'=w:=
 Any.strings_HasPrefix Tryz.lays99 s p w
theorem Br_ (s p:ByteArray) (m:Int) (w:QV) (b:s.size<4294967281) (a:w.cell? ⟨Tryz.lays145_ren.g 1,0,QK⟩=QJ (QY QU m)) :
    Calls QW 295 #[QZ s,QZ p] w λe w'=>e = YQ (ZJ #[QZ ⟨(Lib.cut s.data.toList p.data.toList).1.toArray⟩,QZ ⟨(Lib.cut s.data.toList p.data.toList).2.1.toArray⟩,XY (Lib.cut s.data.toList p.data.toList).2.2])/\∃n,w'=w.drewN n:=
 Any.strings_Cut Tryz.lays145 s p m w b a
theorem Nk_:Builder.Extra QW Tryz.lays105_ren where
 sizeBuilder:=by kernel_rfl
 liesBuilder:=by kernel_rfl
 t5:=by kernel_rfl
 a5:=λ_=>by kernel_rfl
 z5:=λ_=>by kernel_rfl
 v5:=λ_=>by kernel_rfl
 infoByte:=by kernel_rfl
 cellsByte:=by kernel_rfl
 sizeByte:=by kernel_rfl
 neB5:=by decide
theorem q7_ (s:ByteArray) (c:Nat) (w:QV) (b:c<=9223372036854775807) (a:s.size*c<=140737488355328) :
    Calls QW 325 #[QZ s,QY QU (c:Int)] w λe w'=>e = YQ (QZ ⟨(Lib.repeatL s.data.toList c).toArray⟩)/\XW w.heap.size w w':=
 Any.strings_Repeat Tryz.lays105 Nk_ s c w b a
end
section
open Go Go.RowKit
def ks_ (d:List UInt8) (a:Nat):List UInt8:=if d.length<=a then List.replicate (a+1-d.length) 48++d else d
def fa_ (d:List UInt8) (a:Nat):List UInt8:=Lib.trimLeftS ((ks_ d a).take ((ks_ d a).length-a)) [48]
def ia_ (d:List UInt8) (a:Nat):List UInt8:=Lib.trimRightS ((ks_ d a).drop ((ks_ d a).length-a)) [48]
def di_ (b:Bool) (d:List UInt8) (a:Nat):List UInt8×Int:=
 if 40<(fa_ d a).length\/20<(ia_ d a).length then ([],2)
 else if fa_ d a=[]/\ia_ d a=[] then ([48,46,48],0)
 else ((if b=true then [45] else [])++(if fa_ d a=[] then [48] else fa_ d a)++[46]++(if ia_ d a=[] then [48] else ia_ d a),0)
def fe_ (c:UInt8):Nat:=c.toNat-48
def bm_ (c:UInt8):Bool:=b3_ c.toNat
theorem dm_ {c:UInt8}:bm_ c=true↔48<=c.toNat/\c.toNat<=57:=by unfold bm_ b3_;exact decide_eq_true_iff
theorem wl_ {c:UInt8} (h:bm_ c=true):wk_ (fe_ c)=c:=by
 have:=dm_.1 h;unfold wk_ fe_;apply UInt8.toNat_inj.1;rw[UInt8.toNat_ofNat'];have:48+(c.toNat-48)=c.toNat:=by omega
 rw[this];exact Nat.mod_eq_of_lt (by omega)
theorem ny_ {c:UInt8} (h:bm_ c=true):fe_ c=0↔c=48:=by
 have:=dm_.1 h;unfold fe_;constructor
 ·intro e;exact UInt8.toNat_inj.1 (by show c.toNat=48;omega)
 ·intro e;subst e;rfl
theorem vp_ (c:UInt8):ten.contains c=bm_ c:=by
 have h:∀n:Fin 256,ten.contains (UInt8.ofNat n.val)=b3_ n.val:=by decide +kernel
 have h2:=h ⟨c.toNat,c.toNat_lt⟩;have e:UInt8.ofNat c.toNat=c:=UInt8.ofNat_toNat;rw[show (⟨c.toNat,c.toNat_lt⟩:Fin 256).val=c.toNat from rfl,e]at h2;exact h2
def fc_ (l:List UInt8):Bool:=!l.isEmpty&&l.all bm_
theorem cy_ {a : Type} (p:a -> Bool) (l:List a):l.dropWhile p=[]↔l.all p=true:=by
 induction l with
 | nil=>simp
 | cons c l b=>
  rw[List.dropWhile_cons]
  cases h:p c
  ·simp[h]
  ·simp[h,b]
theorem Fd_ (l cs:List UInt8):Lib.trimS l cs=[]↔l.all (cs.contains ·)=true:=by
 unfold Lib.trimS Lib.trimLeftS Lib.trimRightS;rw[cy_,List.all_reverse];constructor
 ·intro h
  have h2:l.reverse.dropWhile (cs.contains ·)=[]:=by
   cases hd:l.reverse.dropWhile (cs.contains ·) with
   | nil=>rfl
   | cons c r=>
    have:=List.head_dropWhile_not (cs.contains ·) (l:=l.reverse) (by rw[hd];simp);rw[hd]at h;have a:cs.contains c=true:=by simp only[List.all_cons,YW]at h;exact h.1
    simp only[hd,List.head_cons]at this;rw[a]at this;cases this
  have:=(cy_ _ _).1 h2;rwa [List.all_reverse]at this
 ·intro h;have:l.reverse.dropWhile (cs.contains ·)=[]:=(cy_ _ _).2 (by rw[List.all_reverse];exact h);rw[this];rfl
theorem E8_ (l:List UInt8):(⟨l.toArray⟩:ByteArray).data.toList=l:=rfl
theorem h8_ (s:ByteArray):s.toList.isEmpty=s.data.toList.isEmpty:=by rw[show s.toList=s.data.toList from Lib.toList_data s]
theorem B6_ (s:ByteArray):D6_ s=fc_ s.data.toList:=by
 unfold D6_ fc_;rw[h8_,h8_,E8_];congr 1
 have h:=Fd_ s.data.toList ten;have e:(s.data.toList.all (ten.contains ·))=s.data.toList.all bm_:=by congr 1;funext c;exact vp_ c
 rw[e]at h
 cases hb:s.data.toList.all bm_
 ·rw[hb]at h
  cases ht:Lib.trimS s.data.toList ten
  ·exact absurd (h.1 ht) (by simp)
  ·rfl
 ·rw[hb]at h;rw[h.2 rfl];rfl
theorem Hw_ {l:List UInt8} (h:46∉l):Lib.index l [46] = -1:=by
 induction l with
 | nil=>rfl
 | cons c l d=>
  unfold Lib.index;have a:(46:UInt8)≠c:=λe=>h (by rw[e];exact VJ);have b:[46].isPrefixOf (c::l)=false:=by simp[List.isPrefixOf,a]
  rw[b,d (λe=>h (List.mem_cons_of_mem _ e))];rfl
theorem Du_ {a b:List UInt8} (h:46∉a):Lib.index (a++46::b) [46]=a.length:=by
 induction a with
 | nil=>show Lib.index (46::b) [46]=_;unfold Lib.index;simp[List.isPrefixOf]
 | cons c a g=>
  show Lib.index (c::(a++46::b)) [46]=_;unfold Lib.index;have d:(46:UInt8)≠c:=λe=>h (by rw[e];exact VJ);have f:[46].isPrefixOf (c::(a++46::b))=false:=by simp[List.isPrefixOf,d]
  rw[f,g (λe=>h (List.mem_cons_of_mem _ e))];have:((a.length:Int) == -1)=false:=by rw[bN_];omega
  rw[this];simp
theorem Gw_ {l:List UInt8} (h:46∉l):Lib.cut l [46]=(l,[],false):=by unfold Lib.cut;rw[Hw_ h];rfl
theorem un_ {a b:List UInt8} (h:46∉a):Lib.cut (a++46::b) [46]=(a,b,true):=by unfold Lib.cut;rw[Du_ h,iP_ (by omega)];simp
theorem tq_ (l:List UInt8):46∉l\/∃a b,l=a++46::b/\46∉a:=by
 induction l with
 | nil=>exact .inl (by simp)
 | cons c l g=>
  by_cases d:c=46
  ·exact .inr ⟨[],l,by rw[d];rfl,by simp⟩
  ·rcases g with h | ⟨a,b,h,f⟩
   ·exact .inl (λe=>by rcases List.mem_cons.1 e with e | e;exact d e.symm;exact h e)
   ·exact .inr ⟨c::a,b,by rw[h];rfl,λe=>by rcases List.mem_cons.1 e with e | e;exact d e.symm;exact f e⟩
theorem x5_ (l:List UInt8):∀(i j:Nat),aq_ l i (QJ j)=cond (l.all bm_) (QJ (QJ j)) QK:=by
 induction l with
 | nil=>intro i j;rfl
 | cons c l a=>
  intro i j;unfold aq_;rw[show (c==46&&(QJ j).isNone)=false by simp];simp only[a];show cond false _ (cond (bm_ c) _ _)=_;rw[List.all_cons]
  cases bm_ c<;>rfl
theorem Eh_ (l:List UInt8) (h:46∉l):∀(i:Nat),aq_ l i QK=cond (l.all bm_) (QJ QK) QK:=by
 induction l with
 | nil=>intro i;rfl
 | cons c l b=>
  intro i;unfold aq_;have a:(c==46)=false:=bN_.2 (λe=>h (by rw[e];exact VJ));rw[a,b (λe=>h (List.mem_cons_of_mem _ e))];show cond (bm_ c) _ _=_;rw[List.all_cons]
  cases bm_ c<;>rfl
theorem qz_ (a b:List UInt8) (h:46∉a):∀(i:Nat),aq_ (a++46::b) i QK=cond (a.all bm_&&b.all bm_) (QJ (QJ (i+a.length))) QK:=by
 induction a with
 | nil=>
  intro i;show aq_ (46::b) i QK=_;unfold aq_;rw[show ((46:UInt8)==46&&(QK:Option Nat).isNone)=true by rfl];rw[x5_];rfl
 | cons c a f=>
  intro i;show aq_ (c::(a++46::b)) i QK=_;unfold aq_;have d:(c==46)=false:=bN_.2 (λe=>h (by rw[e];exact VJ));rw[d,f (λe=>h (List.mem_cons_of_mem _ e))];show cond (bm_ c) _ _=_;rw[List.all_cons,show i+1+a.length=i+(c::a).length by simp;omega]
  cases bm_ c<;>rfl
theorem uq_ {l:List UInt8} (h:46∉l):bf_ l=(l.map fe_).reverse:=by
 induction l with
 | nil=>rfl
 | cons c l b=>
  unfold bf_;have a:(c==46)=false:=bN_.2 (λe=>h (by rw[e];exact VJ));rw[a,b (λe=>h (List.mem_cons_of_mem _ e))];simp[fe_]
theorem G1_ (a b:List UInt8):bf_ (a++b)=bf_ b++bf_ a:=by
 induction a with
 | nil=>simp[bf_]
 | cons c a d=>simp[bf_,d]
theorem D4_ {l:List UInt8} (h:l.all bm_=true):46∉l:=λe=>by
 have:=List.all_eq_true.1 h _ e
 cases this
theorem wm_ {a b:List UInt8} (c:a.all bm_=true) (hb:b.all bm_=true):bf_ (a++46::b)=((a++b).map fe_).reverse:=by rw[G1_,uq_ (D4_ c)];show (bf_ b++[])++_=_;rw[uq_ (D4_ hb)];simp
def bs_ (d:List UInt8):List Nat:=(d.map fe_).reverse
theorem gj_ (d:List UInt8):(bs_ d).length=d.length:=by simp[bs_]
theorem o1_ (d:List UInt8) {i:Nat} (h:i<d.length):atD (bs_ d) i=fe_ (d[d.length-1-i]'(by omega)):=by unfold atD bs_;rw[List.getElem?_reverse (by simpa using h)];simp only[List.length_map,List.getElem?_map];rw[XQ (by omega)];rfl
theorem Ok_ (a b:List UInt8) {i:Nat} (h:i<a.length):atD (bs_ (a++b)) (b.length+i)=fe_ (a[a.length-1-i]'(by omega)):=by
 rw[o1_ _ (by simp;omega)];congr 1
 rw[List.getElem_append_left (by simp;omega)];congr 1
 simp;omega
theorem Ol_ (a b:List UInt8) {i:Nat} (h:i<b.length):atD (bs_ (a++b)) i=fe_ (b[b.length-1-i]'(by omega)):=by
 rw[o1_ _ (by simp;omega)];congr 1
 rw[List.getElem_append_right (by simp;omega)];congr 1
 simp;omega
def a8_ (c:UInt8):Bool:=[48].contains c
theorem fn_ {c:UInt8}:a8_ c=true↔c=48:=by unfold a8_;simp
theorem Hr_ (D:List Nat) (S:Nat):∀a:List UInt8,a.all bm_=true->(∀(i:Nat) (h:i<a.length),atD D (S+i)=fe_ (a[a.length-1-i]'(by omega))) ->
    max (g2_ D S (S+a.length)) (S+1)=S+max 1 (a.dropWhile a8_).length:=by
 intro a;induction a with
 | nil=>intro _ _;have:=Hq_ D S (S+0);simp at this ⊢;omega
 | cons c a g=>
  intro d f;rw[List.all_cons,YW]at d;have h0:=f a.length (by simp);have h0:atD D (S+a.length)=fe_ c:=by rw[h0];simp
  rw[show S+(c::a).length=(S+a.length)+1 by simp;omega];unfold g2_;rw[h0,List.dropWhile_cons];have hz:=ny_ d.1;by_cases b:c=48
  ·rw[iP_ (fn_.2 b)]
   cases a with
   | nil=>
    rw[iN_ (by simp)];simp
   | cons e a=>
    rw[iP_ ⟨by simp,hz.2 b⟩];refine g d.2 λi h=>?_;rw[f i (by simp at h ⊢;omega)];congr 1
    rw[List.getElem_cons];rw[dif_neg (by simp at h ⊢;omega)];congr 1
    simp at h ⊢;omega
  ·rw[iN_ (λe=>b (hz.1 e.2)),iN_ (λe=>b (fn_.1 e))];simp;omega
theorem Lo_ (D:List Nat) (S:Nat):∀(r:List UInt8) (k:Nat),r.all bm_=true->k+r.length=S->(∀(i:Nat) (h:i<r.length),atD D (k+i)=fe_ r[i]) ->
    qo_ D S r.length k=S-(r.dropWhile a8_).length:=by
 intro r;induction r with
 | nil=>intro k _ d _;simp[qo_]at d ⊢;omega
 | cons c r g=>
  intro k b d f;rw[List.all_cons,YW]at b;have h0:atD D k=fe_ c:=f 0 (by simp);have hz:=ny_ b.1;show qo_ D S (r.length+1) k=_;unfold qo_;rw[h0,List.dropWhile_cons];simp only[List.length_cons]at d;by_cases a:c=48
  ·rw[iP_ (fn_.2 a),iP_ ⟨by omega,hz.2 a⟩];refine g (k+1) b.2 (by omega) λi h=>?_;have:=f (i+1) (by simp;omega);rw[show k+(i+1)=k+1+i by omega]at this;rw[this];rfl
  ·rw[iN_ (λe=>a (hz.1 e.2)),iN_ (λe=>a (fn_.1 e))];simp;omega
theorem wn_ (D:List Nat) (lo:Nat):∀a:List UInt8,a.all bm_=true->(∀(i:Nat) (h:i<a.length),atD D (lo+i)=fe_ (a[a.length-1-i]'(by omega)))->cq_ D (lo+a.length) lo=a:=by
 intro a c b;unfold cq_;rw[show lo+a.length-lo=a.length by omega];refine List.ext_getElem (by simp) λi h1 h2=>?_;simp only[List.getElem_map,List.getElem_range];rw[show lo+a.length-1-i=lo+(a.length-1-i) by omega,b _ (by omega)];have e:a[a.length-1-(a.length-1-i)]'(by omega)=a[i]:=by congr 1;omega
 rw[e];exact wl_ (List.all_eq_true.1 c _ (List.getElem_mem h2))
theorem ge_ (p:UInt8->Bool) (a:List UInt8):a.dropWhile p=a.drop (a.length-(a.dropWhile p).length):=by
 induction a with
 | nil=>rfl
 | cons c a b=>
  rw[List.dropWhile_cons];by_cases h:p c=true
  ·rw[iP_ h];have:(a.dropWhile p).length<=a.length:=by rw[b];simp
   rw[show (c::a).length-(a.dropWhile p).length=(a.length-(a.dropWhile p).length)+1 by simp;omega];exact b
  ·rw[iN_ h];simp
theorem F7_ {a:List UInt8} (b:a.all bm_=true):a.all a8_=(a.map fe_).all (· == 0):=by
 induction a with
 | nil=>rfl
 | cons c a d=>
  rw[List.all_cons,YW]at b;rw[List.map_cons,List.all_cons,List.all_cons,d b.2];congr 1
  have hz:=ny_ b.1;rw[Bool.eq_iff_iff,fn_,beq_iff_eq];exact hz.symm
theorem sp_ (g:Bool) (a b:List UInt8) (y:fc_ a=true) (hb:b.all bm_=true) :
    ((⟨(di_ g (a++b) b.length).1.toArray⟩:ByteArray),(di_ g (a++b) b.length).2)=(cond (bq_ (bs_ (a++b)) b.length) ⟨#[]⟩ (iv_ g (bs_ (a++b)) b.length),cond (bq_ (bs_ (a++b)) b.length) 2 0):=by
 obtain⟨t,j⟩:a≠[]/\a.all bm_=true:=by unfold fc_ at y;rw[YW]at y;exact⟨by rintro rfl;simp at y,y.2⟩
 have O:0<a.length:=List.length_pos_iff.2 t;have x:ks_ (a++b) b.length=a++b:=by unfold ks_;rw[iN_ (by simp;omega)]
 have q:(a++b).length-b.length=a.length:=by simp
 have T:fa_ (a++b) b.length=a.dropWhile a8_:=by unfold fa_;rw[x,q];simp only[List.take_left'];rfl
 have R:ia_ (a++b) b.length=(b.reverse.dropWhile a8_).reverse:=by unfold ia_;rw[x,q];simp only[List.drop_left'];rfl
 have G:∀(i:Nat) (h:i<a.length),atD (bs_ (a++b)) (b.length+i)=fe_ (a[a.length-1-i]'(by omega)):=λi h=>Ok_ a b h;have I:∀(i:Nat) (h:i<b.length),atD (bs_ (a++b)) i=fe_ (b[b.length-1-i]'(by omega)):=λi h=>Ol_ a b h;have k:gg_ (bs_ (a++b)) b.length=b.length+max 1 (a.dropWhile a8_).length:=by unfold gg_;rw[gj_,show (a++b).length=b.length+a.length by simp;omega];exact Hr_ _ _ a j G
 have r:lw_ (bs_ (a++b)) b.length=b.length-(b.reverse.dropWhile a8_).length:=by
  unfold lw_
  have:=Lo_ (bs_ (a++b)) b.length b.reverse 0 (by rw[List.all_reverse];exact hb) (by simp) (λi h=>by
   rw[VQ,I i (by simpa using h)];congr 1
   rw[List.getElem_reverse])
  simpa using this
 have V:(b.reverse.dropWhile a8_).length<=b.length:=by rw[ge_];simp
 have U:(a.dropWhile a8_).length<=a.length:=by rw[ge_];simp
 have E:bq_ (bs_ (a++b)) b.length=decide (40<(a.dropWhile a8_).length\/20<(b.reverse.dropWhile a8_).length):=by unfold bq_;rw[k,r,Bool.eq_iff_iff,Bool.or_eq_true,decide_eq_true_iff,decide_eq_true_iff,decide_eq_true_iff];omega
 have z:gm_ (bs_ (a++b))=(decide (a.dropWhile a8_=[])&&decide (b.reverse.dropWhile a8_=[])):=by unfold gm_ bs_;rw[List.all_reverse,<-F7_ (by rw[List.all_append,j,hb];rfl),List.all_append,Bool.eq_iff_iff,YW,YW,decide_eq_true_iff,decide_eq_true_iff,cy_,cy_,List.all_reverse]
 have o:cq_ (bs_ (a++b)) (b.length+max 1 (a.dropWhile a8_).length) b.length=if a.dropWhile a8_=[] then [48] else a.dropWhile a8_:=by
  have key:∀c:List UInt8,(∃e,a=e++c)->cq_ (bs_ (a++b)) (b.length+c.length) b.length=c:=λc D=>by
   obtain⟨e,m⟩:=D;refine wn_ _ _ c ?_ λi h=>?_
   ·rw[m,List.all_append,YW]at j;exact j.2
   ·rw[G i (by rw[m];simp;omega)];congr 1
    subst m;rw[List.getElem_append_right (by simp;omega)];congr 1
    simp;omega
  by_cases s:a.dropWhile a8_=[]
  ·rw[iP_ s,s];have J:=(cy_ _ _).1 s;obtain⟨e,c,m⟩:∃e c,a=e++[c]:=⟨a.dropLast,a.getLast t,(List.dropLast_concat_getLast t).symm⟩;have D:c=48:=fn_.1 (List.all_eq_true.1 J c (by rw[m];simp));have:=key [c] ⟨e,m⟩;rw[D]at this;exact this
  ·rw[iN_ s];have S:=List.length_pos_iff.2 s;rw[show max 1 (a.dropWhile a8_).length=(a.dropWhile a8_).length by omega];exact key _ ⟨a.takeWhile a8_,List.takeWhile_append_dropWhile.symm⟩
 have p:cq_ (bs_ (a++b)) b.length (b.length-(b.reverse.dropWhile a8_).length)=(b.reverse.dropWhile a8_).reverse:=by
  obtain⟨c,e,B,C⟩:∃c e,b=c++e/\c=(b.reverse.dropWhile a8_).reverse:=⟨(b.reverse.dropWhile a8_).reverse,(b.reverse.takeWhile a8_).reverse,by rw[<-List.reverse_append,List.takeWhile_append_dropWhile,List.reverse_reverse],rfl⟩;have M:(b.reverse.dropWhile a8_).length=c.length:=by rw[C];simp
  rw[<-C,M];have P:b.length=c.length+e.length:=by rw[B];simp
  have:=wn_ (bs_ (a++b)) (b.length-c.length) c (by rw[B,List.all_append,YW]at hb;exact hb.1) (λi h=>by
   rw[I _ (by omega)];congr 1
   have:b[b.length-1-(b.length-c.length+i)]'(by omega)=(c++e)[b.length-1-(b.length-c.length+i)]'(by simp;omega):=by congr 1
   rw[this,List.getElem_append_left (by omega)];congr 1
   omega)
  rwa [show b.length-c.length+c.length=b.length by omega]at this
 rw[E];unfold di_;rw[T,R];simp only[List.length_reverse,List.reverse_eq_nil_iff];by_cases h1:40<(a.dropWhile a8_).length\/20<(b.reverse.dropWhile a8_).length
 ·rw[iP_ h1,dT_ h1];rfl
 ·rw[iN_ h1,dF_ h1];unfold iv_;rw[z,k,r,o,p]
  have N:decide (b.length-(b.reverse.dropWhile a8_).length=b.length)=decide (b.reverse.dropWhile a8_=[]):=by
   rw[decide_eq_decide];constructor
   ·intro h;by_cases L:b.length=0
    ·have:b=[]:=UK L;subst this;rfl
    ·exact UK (by omega)
   ·intro h;rw[h];rfl
  rw[N];by_cases d:a.dropWhile a8_=[]<;>by_cases f:b.reverse.dropWhile a8_=[]
  ·rw[iP_ ⟨d,f⟩];simp[d,f]
  ·rw[iN_ (λh=>f h.2)]
   cases g<;>simp[d,f]
  ·rw[iN_ (λh=>d h.1)]
   cases g<;>simp[d,f]
  ·rw[iN_ (λh=>d h.1)]
   cases g<;>simp[d,f]
def j2_ (s:ByteArray):List UInt8×Int:=
 let c:=Lib.cut (bt_ s).data.toList [46]
 if fc_ c.1=true/\(c.2.2=true->fc_ c.2.1=true) then di_ (bj_ s) (c.1++c.2.1) c.2.1.length else ([],6)
theorem tc_ (s:ByteArray):((⟨(j2_ s).1.toArray⟩:ByteArray),(j2_ s).2)=cu_ s:=by
 unfold j2_ cu_ c4_;have p:=al_ (bt_ s);generalize hl:(bt_ s).data.toList=l at p;rw[<-p];simp only;rcases tq_ l with h | ⟨a,b,h,m⟩
 ·rw[Gw_ h,Eh_ l h]
  cases c:l.all bm_
  ·rw[iN_ (by intro e;have:=e.1;unfold fc_ at this;rw[c]at this;simp at this)];rfl
  ·simp only[cond_true];by_cases h0:l=[]
   ·subst h0;rfl
   ·have q:fc_ l=true:=by unfold fc_;rw[c];cases l<;>simp_all
    rw[iP_ ⟨q,λe=>by cases e⟩];have t:=List.length_pos_iff.2 h0;rw[show (decide (l.length=0) || (none:Option Nat)==some 0 || (none:Option Nat)==some (l.length-1))=false by rw[dF_ (by omega)];rfl];have:=sp_ (bj_ s) l [] q rfl;rw[uq_ (D4_ c)];simp only[List.append_nil,List.length_nil]at this ⊢;exact this
 ·rw[h,un_ m,qz_ a b m];by_cases c:(a.all bm_&&b.all bm_)=true
  ·obtain⟨k,f⟩:=Bool.and_eq_true_iff.1 c;rw[k,f];simp only[Bool.and_self,cond_true,VQ];have g:(decide ((a++46::b).length=0) || (QJ a.length==some 0) || (QJ a.length==QJ ((a++46::b).length-1)))=(decide (a=[]) || decide (b=[])):=by rw[Bool.eq_iff_iff];simp only[Bool.or_eq_true,decide_eq_true_iff,ZZ,List.length_cons,beq_iff_eq,Option.some.injEq,<-List.length_eq_zero_iff];omega
   rw[g];by_cases i:a=[]
   ·rw[iN_ (by rintro⟨e,_⟩;subst i;cases e)];rw[dT_ i];rfl
   ·by_cases j:b=[]
    ·rw[iN_ (by rintro⟨_,e⟩;subst j;exact absurd (e trivial) (by decide))];simp[j]
    ·have o:fc_ a=true:=by unfold fc_;rw[k];cases a<;>simp_all
     have r:fc_ b=true:=by unfold fc_;rw[f];cases b<;>simp_all
     rw[iP_ ⟨o,λ_=>r⟩,dF_ i,dF_ j];simp only[Bool.or_self,cond_false];rw[wm_ k f];have d:k0_ (a++46::b).length (QJ a.length)=b.length:=by unfold k0_;simp
     rw[d];exact sp_ (bj_ s) a b o f
  ·have c:(a.all bm_&&b.all bm_)=false:=by simpa using c
   rw[c];simp only[cond_false];rw[iN_];rintro⟨g,d⟩;have d:=d trivial;unfold fc_ at g d;rw[YW]at g d;rw[g.2,d.2]at c
   cases c
end
section
open Go Go.RowKit Go.Shelf Go.Lib
def bK (l:List UInt8):ByteArray:=⟨l.toArray⟩
theorem as_ (l:List UInt8):(bK l).size=l.length:=by simp[bK,ByteArray.size]
theorem ja_ (l:List UInt8):(bK l).data.toList=l:=rfl
theorem si_ (l:List UInt8):(bK l).toList=l:=Lib.toList_data (bK l)
theorem bg_ (a b:List UInt8):bK a++bK b=bK (a++b):=by apply ByteArray.ext;simp[bK,ByteArray.data_append]
theorem Ko_ (a:List UInt8) {k:Nat}:(bK a).extract 0 k=bK (a.take k):=by apply ByteArray.ext;simp[bK]
theorem Kn_ (a:List UInt8) {k n:Nat} (h:a.length=n):(bK a).extract k n=bK (a.drop k):=by apply ByteArray.ext;subst h;simp[bK];exact YJ (by simp)
theorem oa_ (n:Nat):Lib.repeatL [48] n=List.replicate n 48:=by
 induction n with
 | zero=>rfl
 | succ n a=>simp[Lib.repeatL,a,List.replicate_succ]
theorem i2_ (d:List UInt8) (a:Nat):(ks_ d a).length=max d.length (a+1):=by
 unfold ks_;split
 ·simp;omega
 ·omega
theorem Fj_ (d:List UInt8) (a:Nat):(fa_ d a).length<=d.length+1:=by unfold fa_ Lib.trimLeftS;have h:=(List.dropWhile_sublist ([48].contains ·) (l:=(ks_ d a).take ((ks_ d a).length-a))).length_le;have:=i2_ d a;rw[UJ]at h;omega
theorem Iy_ (d:List UInt8) (a:Nat):(ia_ d a).length<=a:=by unfold ia_ Lib.trimRightS;rw[List.length_reverse];have h:=(List.dropWhile_sublist ([48].contains ·) (l:=((ks_ d a).drop ((ks_ d a).length-a)).reverse)).length_le;have:=i2_ d a;rw[List.length_reverse,List.length_drop]at h;omega
def F5_ (a:Bool) (d:List UInt8) (b:Nat) (w:QV) (e:Ending) (w':QV):Prop:=XW w.heap.size w w'/\e = YQ (ZJ #[QZ (bK (di_ a d b).1),QY QU (di_ a d b).2])
theorem Jt_ (g:Bool) (d:List UInt8) (f:Nat) (hd:d.length<=1000000) (b0:f<=1000000) (w:QV) :
    Calls QW 297 #[XY g,QZ (bK d),QY QU (f:Int)] w (F5_ g d f w):=by
 obtain⟨n,J⟩:=a_ d.length;have hn:(bK d).size=n:=by rw[as_];exact J.o
 have az:n<=1000000:=by rw[<-J.o];exact hd
 obtain⟨D,HD⟩:=a_ (bK d);obtain⟨P,S⟩:=a_ (ks_ d f);obtain⟨r,HW⟩:=a_ (fa_ d f);obtain⟨k,T⟩:=a_ (ia_ d f);have am:=i2_ d f;have ai:=Fj_ d f;have aj:=Iy_ d f;rw[S.o,J.o]at am;rw[HW.o,J.o]at ai;rw[T.o]at aj;obtain⟨K,HK⟩:=a_ (P.length-f);have aw:K<=1000001:=by rw[<-HK.o];omega
 have hw:=q_ (show Lib.trimLeftS (P.take K) [48]=r from by rw[<-HW.o,<-HK.o,<-S.o];rfl);have hp:=q_ (show Lib.trimRightS (P.drop K) [48]=k from by rw[<-T.o,<-HK.o,<-S.o];rfl)
 have q:=q_ (show di_ g d f=(if 40<r.length\/20<k.length then ([],2)
  else if r=[]/\k=[] then ([48,46,48],0)
  else ((if g=true then [45] else [])++(if r=[] then [48] else r)++[46]++(if k=[] then [48] else k),0)) from by unfold di_;rw[HW.o,T.o])
 rw[HD.o];have ab:D.size=n:=by rw[<-HD.o];exact hn
 have I:=q_ ab;clear hn ab hd;go_enter func297,ntmps297
 go_upto_if 13 with fail;go_cut [1] (λs1 wx=>s1 = QZ (bK P)/\XW w.heap.size w wx)
 case first=>
  by_cases af:n<=f
  ·obtain⟨c,hc⟩:∃c:Nat,c=f+1-n:=⟨_,rfl⟩;have a0:=q_ (q7_ ⟨#[48]⟩ c w (by omega) (by rw[show (⟨#[48]⟩:ByteArray).size=1 from rfl,Nat.one_mul];omega));have w1:IntKind.i64.wrap ((f:Int)+1)=(f:Int)+1:=YU _ (by omega);have w2:IntKind.i64.wrap ((f:Int)+1-(D.size:Int))=(c:Int):=by rw[I.o,YU _ (by omega)];omega
   have e1:D.size<=f:=by rw[I.o];omega
   have e2:(f:Int)+1-(D.size:Int)=(c:Int):=by rw[I.o];omega
   have N:=q_ (show bK (List.replicate c 48)++D=bK P from by rw[<-HD.o,<-S.o,bg_];unfold ks_;rw[iP_ (by rw[J.o];exact af),J.o,hc]);have M:(⟨#[48]⟩:ByteArray).data.toList=[48]:=rfl;have E:=a0.o;rw[M,oa_]at E;have O:=q_ (show Calls QW 325 #[QZ ⟨#[48]⟩,QY QU (c:Int)] w λe w'=>e = YQ (QZ (bK (List.replicate c 48)))/\XW w.heap.size w w' from E);obtain⟨Z,HZ⟩:=a_ (bK (List.replicate c 48));have ay:Z.size<=1000001:=by rw[<-HZ.o,as_,List.length_replicate];omega
   rw[HZ.o]at O N;have ar:∀W:QV,(Op.stringOp .add Z D).run QW W = .ok (.string (Z++D)) W:=λW=>UV W _ _ (by rw[I.o];omega);clear E a0 M hc;go_wp2_with fail;refine O.o.mono ?_;rintro e w' ⟨rfl,hB⟩;have HB:=q_ hB;clear hB;go_wp2_with fail;go_meet;exact⟨by rw[N.o],HB.o⟩
  ·have e1:¬D.size<=f:=by rw[I.o];omega
   have N:=q_ (show D=bK P from by rw[<-HD.o,<-S.o];unfold ks_;rw[iN_ (by rw[J.o];exact af)]);go_wp2_with fail;go_meet;exact⟨by rw[N.o],XV _ _⟩
 case rest=>
  obtain⟨rfl,a9⟩:=hcut;have B:=q_ a9;clear a9;rename QV=>w1
  obtain⟨y,L⟩:=a_ (bK P);have ac:y.size=K+f:=by rw[<-L.o,as_,<-HK.o];omega
  have a7:=q_ ac;have R:=q_ (show y.extract 0 K=bK (P.take K) from by rw[<-L.o];exact Ko_ P);have s:=q_ (show y.extract K y.size=bK (P.drop K) from by rw[<-L.o,as_];exact Kn_ P rfl);rw[L.o];have w3:IntKind.i64.wrap ((y.size:Int)-(f:Int))=(K:Int):=by rw[a7.o,YU _ (by omega)];omega
  have w4:(0:Int)<=(K:Int):=by omega
  have w5:(K:Int)<=(y.size:Int):=by rw[a7.o];omega
  have w6:((K:Int)).toNat=K:=rfl;have ap:=q_ (λ(W:QV)=>show Calls QW 326 #[QZ (y.extract K y.size),QZ ⟨#[48]⟩] W λe w'=>e = YQ (QZ (bK k))/\XW W.heap.size W w' from by have:=Fc_ (y.extract K y.size) W (by rw[s.o,as_,List.length_drop];omega);rw[s.o,ja_,hp.o]at this;rw[s.o];exact this);clear ac;have p1:=q_ (show XW w.heap.size w w1.drew from ⟨B.o.os,B.o.tape,B.o.output,B.o.size,B.o.block⟩);go_upto_region 3 with fail;go_cut [8,9] (λs8 s9 wx=>s8 = QZ (bK (P.take K))/\s9 = QZ (bK k)/\XW w.heap.size w wx)
  case first=>
   go_region_held3 (λw'=>XW w.heap.size w w') (first | exact p1.o | exact B.o | exact G.o | (trace_state;fail))
    (first | (go_at_call 326;refine (ap.o _).mono ?_;rintro e w2 ⟨rfl,ad⟩;have G:=q_ (p1.o.trans (ad.mono p1.o.size));clear ad))
   go_wp2_with fail;go_meet;exact⟨by rw[R.o],rfl,G.o⟩
  case rest=>
   obtain⟨h8,h9,aa⟩:=hcut;have G:=q_ aa;clear aa;rename QV=>w2
   have a4:=q_ (λ(W:QV)=>show Calls QW 327 #[QZ (bK (P.take K)),QZ ⟨#[48]⟩] W λe w'=>e = YQ (QZ (bK r))/\XW W.heap.size W w' from by have:=Fb_ (bK (P.take K)) W;rw[ja_,hw.o]at this;exact this);obtain⟨Tk,ak⟩:=a_ (bK (P.take K));rw[ak.o]at a4 h8;subst h8 h9;obtain⟨a,x⟩:=a_ (bK r);obtain⟨i,t⟩:=a_ (bK k);have a5:a.size=r.length:=by rw[<-x.o,as_]
   have Y:i.size=k.length:=by rw[<-t.o,as_]
   have ah:a.toList=r:=by rw[<-x.o,si_]
   have ag:i.toList=k:=by rw[<-t.o,si_]
   have a8:=q_ a5;have a6:=q_ Y;have U:=q_ ah;have C:=q_ ag;rw[x.o]at a4;rw[t.o];have av:a.size<=1000001:=by rw[a5];omega
   have au:i.size<=1000001:=by rw[Y];omega
   clear a5 Y ah ag w3 w4 w5 w6;go_wp2_with fail;refine (a4.o _).mono ?_;rintro e w3 ⟨rfl,ae⟩;have m:=q_ (G.o.trans (ae.mono G.o.size));clear ae;by_cases p:40<r.length\/20<k.length
   ·have ht:=q_ (show di_ g d f=([],2) from by rw[q.o,iP_ p]);by_cases ao:40<a.size
    ·have o1:(40:Int)<(a.size:Int):=by omega
     go_wp2_with fail;exact ZV (v:=ZJ #[QZ ⟨#[]⟩,QY QU 2]) (by simp[results,results297,go_sem]) rfl ⟨m.o,by rw[ht.o];rfl⟩
    ·have o1:¬(40:Int)<(a.size:Int):=by omega
     have o2:(20:Int)<(i.size:Int):=by rw[a6.o];rw[a8.o]at ao;omega
     go_wp2_with fail;exact ZV (v:=ZJ #[QZ ⟨#[]⟩,QY QU 2]) (by simp[results,results297,go_sem]) rfl ⟨m.o,by rw[ht.o];rfl⟩
   ·have o1:¬(40:Int)<(a.size:Int):=by rw[a8.o];omega
    have o2:¬(20:Int)<(i.size:Int):=by rw[a6.o];omega
    by_cases j:r=[]
    ·have q1:a.toList=[]:=by rw[U.o];exact j
     by_cases b:k=[]
     ·have q2:i.toList=[]:=by rw[C.o];exact b
      have ht:=q_ (show di_ g d f=([48,46,48],0) from by rw[q.o,iN_ p,iP_ ⟨j,b⟩]);clear p j b;go_wp2_with fail;exact ZV (v:=ZJ #[QZ ⟨#[48,46,48]⟩,QY QU 0]) (by simp[results,results297,go_sem]) rfl ⟨m.o,by rw[ht.o];rfl⟩
     ·have q2:¬i.toList=[]:=by rw[C.o];exact b
      have aq:i.toList.isEmpty=false:=by rw[C.o];simpa using b
      have ht:=q_ (show di_ g d f=((if g=true then [45] else [])++[48]++[46]++k,0) from by rw[q.o,iN_ p,iN_ (λh=>b h.2),iP_ j,iN_ b])
      clear p j b
      cases g with
      | true=>
       have a1:∀W:QV,(Op.stringOp .add ⟨#[45]⟩ ⟨#[48]⟩).run QW W = .ok (.string (⟨#[45]⟩++⟨#[48]⟩)) W:=λW=>UV W _ _ (by decide);have V:∀W:QV,(Op.stringOp .add (⟨#[45]⟩++⟨#[48]⟩) ⟨#[46]⟩).run QW W = .ok (.string (⟨#[45]⟩++⟨#[48]⟩++⟨#[46]⟩)) W:=λW=>UV W _ _ (by decide);have X:∀W:QV,(Op.stringOp .add (⟨#[45]⟩++⟨#[48]⟩++⟨#[46]⟩) i).run QW W = .ok (.string (⟨#[45]⟩++⟨#[48]⟩++⟨#[46]⟩++i)) W:=λW=>UV W _ _ (by rw[show ((⟨#[45]⟩++⟨#[48]⟩++⟨#[46]⟩:ByteArray)).size=3 from rfl];omega);go_wp2_with fail;exact ZV (v:=.tuple #[.string (⟨#[45]⟩++⟨#[48]⟩++⟨#[46]⟩++i),.int .i64 0]) (by simp[results,results297,go_sem]) rfl ⟨m.o,by rw[ht.o,<-t.o];exact congrArg (λz=>Ending.returned (.tuple #[.string z,.int .i64 0])) (bg_ [45,48,46] k)⟩
      | false=>
       have V:∀W:QV,(Op.stringOp .add ⟨#[48]⟩ ⟨#[46]⟩).run QW W = .ok (.string (⟨#[48]⟩++⟨#[46]⟩)) W:=λW=>UV W _ _ (by decide);have X:∀W:QV,(Op.stringOp .add (⟨#[48]⟩++⟨#[46]⟩) i).run QW W = .ok (.string (⟨#[48]⟩++⟨#[46]⟩++i)) W:=λW=>UV W _ _ (by rw[show ((⟨#[48]⟩++⟨#[46]⟩:ByteArray)).size=2 from rfl];omega);go_wp2_with fail;exact ZV (v:=.tuple #[.string (⟨#[48]⟩++⟨#[46]⟩++i),.int .i64 0]) (by simp[results,results297,go_sem]) rfl ⟨m.o,by rw[ht.o,<-t.o];exact congrArg (λz=>Ending.returned (.tuple #[.string z,.int .i64 0])) (bg_ [48,46] k)⟩
    ·have q1:¬a.toList=[]:=by rw[U.o];exact j
     have b1:a.toList.isEmpty=false:=by rw[U.o];simpa using j
     by_cases b:k=[]
     ·have q2:i.toList=[]:=by rw[C.o];exact b
      have ht:=q_ (show di_ g d f=((if g=true then [45] else [])++r++[46]++[48],0) from by rw[q.o,iN_ p,iN_ (λh=>j h.1),iN_ j,iP_ b])
      clear p j b
      cases g with
      | true=>
       have a1:∀W:QV,(Op.stringOp .add ⟨#[45]⟩ a).run QW W = .ok (.string (⟨#[45]⟩++a)) W:=λW=>UV W _ _ (by rw[show ((⟨#[45]⟩:ByteArray)).size=1 from rfl];omega);have V:∀W:QV,(Op.stringOp .add (⟨#[45]⟩++a) ⟨#[46]⟩).run QW W = .ok (.string (⟨#[45]⟩++a++⟨#[46]⟩)) W:=λW=>UV W _ _ (by rw[ByteArray.size_append,show ((⟨#[45]⟩:ByteArray)).size=1 from rfl,show ((⟨#[46]⟩:ByteArray)).size=1 from rfl];omega);have X:∀W:QV,(Op.stringOp .add (⟨#[45]⟩++a++⟨#[46]⟩) ⟨#[48]⟩).run QW W = .ok (.string (⟨#[45]⟩++a++⟨#[46]⟩++⟨#[48]⟩)) W:=λW=>UV W _ _ (by rw[ByteArray.size_append,ByteArray.size_append,show ((⟨#[45]⟩:ByteArray)).size=1 from rfl,show ((⟨#[46]⟩:ByteArray)).size=1 from rfl,show ((⟨#[48]⟩:ByteArray)).size=1 from rfl];omega);go_wp2_with fail;exact ZV (v:=.tuple #[.string (⟨#[45]⟩++a++⟨#[46]⟩++⟨#[48]⟩),.int .i64 0]) (by simp[results,results297,go_sem]) rfl ⟨m.o,by rw[ht.o,<-x.o];exact congrArg (λz=>Ending.returned (.tuple #[.string z,.int .i64 0])) (by rw[<-bg_,<-bg_,<-bg_];rfl)⟩
      | false=>
       have V:∀W:QV,(Op.stringOp .add a ⟨#[46]⟩).run QW W = .ok (.string (a++⟨#[46]⟩)) W:=λW=>UV W _ _ (by rw[show ((⟨#[46]⟩:ByteArray)).size=1 from rfl];omega);have X:∀W:QV,(Op.stringOp .add (a++⟨#[46]⟩) ⟨#[48]⟩).run QW W = .ok (.string (a++⟨#[46]⟩++⟨#[48]⟩)) W:=λW=>UV W _ _ (by rw[ByteArray.size_append,show ((⟨#[46]⟩:ByteArray)).size=1 from rfl,show ((⟨#[48]⟩:ByteArray)).size=1 from rfl];omega);go_wp2_with fail;exact ZV (v:=.tuple #[.string (a++⟨#[46]⟩++⟨#[48]⟩),.int .i64 0]) (by simp[results,results297,go_sem]) rfl ⟨m.o,by rw[ht.o,<-x.o];exact congrArg (λz=>Ending.returned (.tuple #[.string z,.int .i64 0])) (by rw[iN_ (by decide),List.nil_append,<-bg_,<-bg_];rfl)⟩
     ·have q2:¬i.toList=[]:=by rw[C.o];exact b
      have aq:i.toList.isEmpty=false:=by rw[C.o];simpa using b
      have ht:=q_ (show di_ g d f=((if g=true then [45] else [])++r++[46]++k,0) from by rw[q.o,iN_ p,iN_ (λh=>b h.2),iN_ j,iN_ b])
      clear p j b
      cases g with
      | true=>
       have a1:∀W:QV,(Op.stringOp .add ⟨#[45]⟩ a).run QW W = .ok (.string (⟨#[45]⟩++a)) W:=λW=>UV W _ _ (by rw[show ((⟨#[45]⟩:ByteArray)).size=1 from rfl];omega);have V:∀W:QV,(Op.stringOp .add (⟨#[45]⟩++a) ⟨#[46]⟩).run QW W = .ok (.string (⟨#[45]⟩++a++⟨#[46]⟩)) W:=λW=>UV W _ _ (by rw[ByteArray.size_append,show ((⟨#[45]⟩:ByteArray)).size=1 from rfl,show ((⟨#[46]⟩:ByteArray)).size=1 from rfl];omega);have X:∀W:QV,(Op.stringOp .add (⟨#[45]⟩++a++⟨#[46]⟩) i).run QW W = .ok (.string (⟨#[45]⟩++a++⟨#[46]⟩++i)) W:=λW=>UV W _ _ (by rw[ByteArray.size_append,ByteArray.size_append,show ((⟨#[45]⟩:ByteArray)).size=1 from rfl,show ((⟨#[46]⟩:ByteArray)).size=1 from rfl];omega);go_wp2_with fail;exact ZV (v:=.tuple #[.string (⟨#[45]⟩++a++⟨#[46]⟩++i),.int .i64 0]) (by simp[results,results297,go_sem]) rfl ⟨m.o,by rw[ht.o,<-x.o,<-t.o];exact congrArg (λz=>Ending.returned (.tuple #[.string z,.int .i64 0])) (by rw[<-bg_,<-bg_,<-bg_];rfl)⟩
      | false=>
       have V:∀W:QV,(Op.stringOp .add a ⟨#[46]⟩).run QW W = .ok (.string (a++⟨#[46]⟩)) W:=λW=>UV W _ _ (by rw[show ((⟨#[46]⟩:ByteArray)).size=1 from rfl];omega);have X:∀W:QV,(Op.stringOp .add (a++⟨#[46]⟩) i).run QW W = .ok (.string (a++⟨#[46]⟩++i)) W:=λW=>UV W _ _ (by rw[ByteArray.size_append,show ((⟨#[46]⟩:ByteArray)).size=1 from rfl];omega);go_wp2_with fail;exact ZV (v:=.tuple #[.string (a++⟨#[46]⟩++i),.int .i64 0]) (by simp[results,results297,go_sem]) rfl ⟨m.o,by rw[ht.o,<-x.o,<-t.o];exact congrArg (λz=>Ending.returned (.tuple #[.string z,.int .i64 0])) (by rw[iN_ (by decide),List.nil_append,<-bg_,<-bg_];rfl)⟩
def ad_ (w:QV):Prop:=∃m:Int,w.cell? ⟨Tryz.lays145_ren.g 1,0,QK⟩=QJ (QY QU m)
theorem j_ {w w':QV} (h:ad_ w) (hb:XW w.heap.size w w'):ad_ w':=by
 obtain⟨m,a⟩:=h;refine⟨m,(hb.cell (p:=⟨Tryz.lays145_ren.g 1,0,QK⟩) ?_).trans a⟩;refine Classical.byContradiction λb=>?_;have:w.heap[Tryz.lays145_ren.g 1]?=QK:=Array.getElem?_eq_none (by simpa using b);unfold World.cell? at a;simp only[this]at a
 cases a
theorem I2_ {s:ByteArray} (c:UInt8):Lib.hasPrefix s.data.toList [c]=(s.data.toList.head?==QJ c):=by
 unfold Lib.hasPrefix
 cases s.data.toList with
 | nil=>rfl
 | cons d l=>simp[List.isPrefixOf,Bool.beq_eq_decide_eq,eq_comm]
def M8_ (s:ByteArray) (w:QV) (e:Ending) (w':QV):Prop:=XW w.heap.size w w'/\e = YQ (ZJ #[QZ (cu_ s).1,QY QU (cu_ s).2])
theorem dy_ {b:Nat} {w w':QV} (h:XW b w w') (m:Nat):XW b w (w'.drewN m):=⟨h.os,h.tape,h.output,h.size,h.block⟩
theorem vg_ (s:ByteArray) (hs:s.size<=100000) (w:QV) (hg:ad_ w):Calls QW 255 #[QZ s] w (M8_ s w):=by
 obtain⟨t,HT⟩:=a_ (bt_ s);have ht:t.size<=100000:=by rw[<-HT.o];exact ZX (rd_ s) hs
 obtain⟨sb,J⟩:=a_ (bj_ s);obtain⟨d,S⟩:=a_ (Lib.cut t.data.toList [46]).1;obtain⟨c,T⟩:=a_ (Lib.cut t.data.toList [46]).2.1;obtain⟨V,a1⟩:=a_ (Lib.cut t.data.toList [46]).2.2;have N:=q_ (show ((bK (j2_ s).1:ByteArray),(j2_ s).2)=cu_ s from tc_ s);have M:=q_ (show j2_ s=(if fc_ d=true/\(V=true->fc_ c=true) then di_ sb (d++c) c.length else ([],6)) from by unfold j2_;simp only[HT.o,J.o,S.o,T.o,a1.o])
 have a9:=q_ (show d.length+c.length<=t.size from by
  rw[<-S.o,<-T.o,<-al_ t];rcases tq_ t.data.toList with h | ⟨a,b,h,ai⟩
  ·rw[Gw_ h];simp
  ·rw[h,un_ ai];simp)
 have a6:=q_ (λW:QV=>q0_ s ⟨#[45]⟩ W);have a7:=q_ (λW:QV=>q0_ s ⟨#[43]⟩ W);have a3:=q_ (show Lib.hasPrefix s.data.toList (⟨#[45]⟩:ByteArray).data.toList=sb from by rw[<-J.o];exact I2_ 45);have a4:=q_ (show (sb || Lib.hasPrefix s.data.toList (⟨#[43]⟩:ByteArray).data.toList)=g9_ s from by rw[<-J.o,show Lib.hasPrefix s.data.toList (⟨#[43]⟩:ByteArray).data.toList=(s.data.toList.head?==some 43) from I2_ 43];rfl);obtain⟨O,U⟩:=a_ (Lib.hasPrefix s.data.toList (⟨#[43]⟩:ByteArray).data.toList);have aa:=q_ (λW:QV=>show Calls QW 294 #[QZ s,QZ ⟨#[45]⟩] W λe w'=>e = YQ (XY sb)/\w'=W from by have:=a6.o W;rwa [a3.o]at this);have ab:=q_ (λW:QV=>show Calls QW 294 #[QZ s,QZ ⟨#[43]⟩] W λe w'=>e = YQ (XY O)/\w'=W from by have:=a7.o W;rwa [U.o]at this);have a5:=q_ (show (sb || O)=g9_ s from by rw[<-U.o];exact a4.o);have a0:=q_ (show t=cond (sb || O) (s.extract 1 s.size) s from by rw[a5.o,<-HT.o];rfl);have Z:=q_ (show (sb || O)=true->0<s.size from by intro h;rw[a5.o]at h;refine Classical.byContradiction λh0=>?_;rw[(nw_ h0).2.1]at h;cases h);obtain⟨m,hm⟩:=hg;have ae:=q_ (λ(W:QV) (hW:W.cell? ⟨Tryz.lays145_ren.g 1,0,none⟩=some (QY QU m))=>show Calls QW 295 #[QZ t,QZ ⟨#[46]⟩] W λe w'=>e = YQ (ZJ #[QZ (bK d),QZ (bK c),XY V])/\∃n,w'=W.drewN n from by have:=Br_ t ⟨#[46]⟩ m W (by omega) hW;rw[show (⟨#[46]⟩:ByteArray).data.toList=[46] from rfl,S.o,T.o,a1.o]at this;exact this);have HM:=q_ hm;have ac:=q_ (XV w.heap.size w);clear hm a6 a7 a3 a4 U J HT;go_enter func255,ntmps255
 go_wp2_with fail;refine (aa.o _).mono ?_;rintro e w' ⟨rfl,rfl⟩
 go_upto_region 2 with fail;go_cut [14] (λak wx=>ak = XY (sb || O)/\wx=w')
 case first=>
  cases sb with
  | true=>
   go_wp2_with fail;go_meet;exact⟨rfl,rfl⟩
  | false=>
   go_wp2_with fail;refine (ab.o _).mono ?_;rintro e w' ⟨rfl,rfl⟩
   go_wp2_with fail;go_meet;exact⟨rfl,rfl⟩
 case rest=>
  obtain⟨X,rfl⟩:=hcut;go_upto_if 14 with fail;go_cut [0] (λs0 wx=>s0 = QZ t/\wx=wc)
  case first=>
   obtain⟨sy,af⟩:=a_ (sb || O)
   rw[af.o]at X Z a0;subst X
   cases sy with
   | true=>
    have am:=Z.o rfl;have G:=q_ (show s.extract 1 s.size=t from a0.o.symm);have e1:(1:Int)<=(s.size:Int):=by omega
    go_wp2_with fail;go_meet;exact⟨by rw[G.o],rfl⟩
   | false=>
    have G:=q_ (show s=t from a0.o.symm);go_wp2_with fail;go_meet;exact⟨by rw[G.o],rfl⟩
  case rest=>
   obtain⟨rfl,rfl⟩:=hcut;clear X;go_wp2_with fail;refine (ae.o _ HM.o).mono ?_;rintro e w1 ⟨rfl,k,a8⟩;have f:=dy_ ac.o k;rw[<-a8]at f;have f:=q_ f;clear a8;have aj:=a9.o;have x:(bK c).size=c.length:=as_ c;obtain⟨l2,I⟩:=a_ c.length;rw[I.o]at aj x;have r:=q_ (λW:QV=>show Calls QW 297 #[.bool sb,.string (bK d++bK c),.int .i64 ((bK c).size:Int)] W (F5_ sb (d++c) c.length W) from by rw[bg_,x,<-I.o];exact Jt_ sb (d++c) c.length (by rw[ZZ,I.o];omega) (by rw[I.o];omega) W);have z:=q_ (λW:QV=>show Calls QW 296 #[.string (bK d)] W (n_ (fc_ d) W) from by have:=n8_ (bK d) W (by rw[as_];omega);rwa [B6_,ja_]at this);have L:=q_ (λW:QV=>show Calls QW 296 #[.string (bK c)] W (n_ (fc_ c) W) from by have:=n8_ (bK c) W (by omega);rwa [B6_,ja_]at this);have Y:∀W:QV,(Op.stringOp .add (bK d) (bK c)).run QW W = .ok (.string (bK d++bK c)) W:=λW=>UV W _ _ (by rw[x,as_];omega)
   have B:=q_ (show ¬(fc_ d=true/\(V=true->fc_ c=true))->cu_ s=(⟨#[]⟩,6) from λh=>by
    rw[<-N.o,M.o,iN_ h];rfl)
   have q:=q_ (show (fc_ d=true/\(V=true->fc_ c=true))->cu_ s=(bK (di_ sb (d++c) c.length).1,(di_ sb (d++c) c.length).2) from λh=>by
    rw[<-N.o,M.o,iP_ h])
   obtain⟨x1,ag⟩:=a_ (fc_ d);obtain⟨x2,ah⟩:=a_ (fc_ c);obtain⟨b1,P⟩:=a_ (bK d);obtain⟨b2,R⟩:=a_ (bK c);rw[ag.o]at z B q;rw[ah.o]at L B q;rw[P.o]at z Y r;rw[R.o]at L Y r x;rw[P.o,R.o];clear x
   cases x1 with
   | false=>
    have C:=q_ (B.o (λh=>by cases h.1));go_wp2_with fail;refine (z.o _).mono ?_;rintro e w2 ⟨rfl,i⟩;have j:=q_ (f.o.trans (i.mono f.o.size));clear i;go_wp2_with fail;exact ZV (v:=ZJ #[QZ ⟨#[]⟩,QY QU 6]) (by simp[results,results255,go_sem]) rfl ⟨j.o,by rw[C.o]⟩
   | true=>
    cases V with
    | false=>
     have C:=q_ (q.o ⟨rfl,λh=>by cases h⟩);go_wp2_with fail;refine (z.o _).mono ?_;rintro e w2 ⟨rfl,i⟩;have j:=q_ (f.o.trans (i.mono f.o.size));clear i;go_wp2_with fail;refine (r.o _).mono ?_;rintro e w3 ⟨p,rfl⟩;have y:=q_ (j.o.trans (p.mono j.o.size));clear p;obtain⟨r1,D⟩:=a_ (bK (di_ sb (d++c) c.length).1);obtain⟨r2,E⟩:=a_ (di_ sb (d++c) c.length).2;rw[D.o,E.o]at C;rw[D.o,E.o];go_wp2_with fail;exact ZV (v:=ZJ #[QZ r1,QY QU r2]) (by simp[results,results255,go_sem]) rfl ⟨y.o,by rw[C.o]⟩
    | true=>
     cases x2 with
     | false=>
      have C:=q_ (B.o (λh=>by cases h.2 rfl));go_wp2_with fail;refine (z.o _).mono ?_;rintro e w2 ⟨rfl,i⟩;have j:=q_ (f.o.trans (i.mono f.o.size));clear i;go_wp2_with fail;refine (L.o _).mono ?_;rintro e w3 ⟨rfl,p⟩;have y:=q_ (j.o.trans (p.mono j.o.size));clear p;go_wp2_with fail;exact ZV (v:=ZJ #[QZ ⟨#[]⟩,QY QU 6]) (by simp[results,results255,go_sem]) rfl ⟨y.o,by rw[C.o]⟩
     | true=>
      have C:=q_ (q.o ⟨rfl,λh=>rfl⟩);go_wp2_with fail;refine (z.o _).mono ?_;rintro e w2 ⟨rfl,i⟩;have j:=q_ (f.o.trans (i.mono f.o.size));clear i;go_wp2_with fail;refine (L.o _).mono ?_;rintro e w3 ⟨rfl,p⟩;have y:=q_ (j.o.trans (p.mono j.o.size));clear p;go_wp2_with fail;refine (r.o _).mono ?_;rintro e w4 ⟨a2,rfl⟩;have ad:=q_ (y.o.trans (a2.mono y.o.size));clear a2;obtain⟨r1,D⟩:=a_ (bK (di_ sb (d++c) c.length).1);obtain⟨r2,E⟩:=a_ (di_ sb (d++c) c.length).2;rw[D.o,E.o]at C;rw[D.o,E.o];go_wp2_with fail;exact ZV (v:=ZJ #[QZ r1,QY QU r2]) (by simp[results,results255,go_sem]) rfl ⟨ad.o,by rw[C.o]⟩
theorem L9_ (b:Bool) (d:List UInt8) (a:Nat):(di_ b d a).1.length<=62:=by
 unfold di_;split
 ·simp
 ·split
  ·simp
  ·rename_i h _;have h1:(fa_ d a).length<=40:=by omega
   have h2:(ia_ d a).length<=20:=by omega
   simp only[ZZ];have c:(if b=true then [(45:UInt8)] else []).length<=1:=by split<;>simp
   have e:(if fa_ d a=[] then [(48:UInt8)] else fa_ d a).length<=40:=by split;exact (by decide);exact h1
   have f:(if ia_ d a=[] then [(48:UInt8)] else ia_ d a).length<=20:=by split;exact (by decide);exact h2
   simp only[List.length_cons,List.length_nil];omega
theorem is_ {s:ByteArray} (h:62<s.size):bl_ s=false:=by
 unfold bl_;rw[<-tc_ s]
 have h1:decide ((⟨(j2_ s).1.toArray⟩:ByteArray)=s)=false:=dF_ λe=>by
  have h2:(j2_ s).1.length<=62:=by
   unfold j2_;simp only;split
   ·exact L9_ _ _ _
   ·simp
  rw[<-e]at h;simp[ByteArray.size]at h;omega
 simp only[h1,Bool.and_false]
theorem uo_ (s:ByteArray) (p:s.size<=9223372036854775807) (w:QV) (k:ad_ w):Calls QW 185 #[QZ s] w (n_ (bl_ s) w):=by
 go_enter func185,ntmps185
 by_cases m:62<s.size
 ·have a:=q_ (is_ m);have j:(62:Int)<(s.size:Int):=by omega
  go_wp2_with fail;go_ret;exact⟨p_ a.o.symm,XV _ _⟩
 ·have j:¬(62:Int)<(s.size:Int):=by omega
  have h:=q_ (vg_ s (by omega) w k);go_wp2_with fail;refine h.o.mono ?_;rintro e q ⟨hb,rfl⟩;have g:=q_ hb;obtain⟨d,f⟩:=a_ (cu_ s).1;obtain⟨i,b⟩:=a_ (cu_ s).2;rw[f.o,b.o];have a:=q_ (show bl_ s=(decide (i=0)&&decide (d=s)) from by unfold bl_;rw[f.o,b.o]);clear hb;by_cases h2:i=0
  ·have c:=q_ (show (d.toList==s.toList)=bl_ s from by
     rw[a.o,dT_ h2];by_cases h1:d=s
     ·rw[dT_ h1,h1];simp
     ·rw[dF_ h1,br_ h1];rfl)
   clear b;subst h2;go_wp2_with fail;go_ret;exact⟨p_ c.o,g.o⟩
  ·have c:=q_ (show false=bl_ s from by rw[a.o,dF_ h2];rfl);go_wp2_with fail;go_ret;exact⟨p_ c.o,g.o⟩
end
section
open Go Go.RowKit
def s9_ (v:g_) (s:XJ):XJ:=
 if v.kind=0 then UX 233 (.agg #[])
 else if v.kind=1 then UX 194 (XY v.truth)
 else if v.kind=2 then UX 188 (QY QU v.num)
 else if v.kind=3 then UX 189 (QZ v.text)
 else if v.kind=4 then UX 234 (QZ v.text)
 else if v.kind=8 then UX 234 (QZ v.text)
 else if v.kind=9 then UX 234 (QZ v.text)
 else if v.kind=5 then UX 191 (s)
 else if v.kind=6 then UX 193 (QY QU v.num)
 else if v.kind=7 then UX 193 (QY QU v.num)
 else if v.kind=10 then UX 237 (.agg #[QZ v.text,QZ v.extra])
 else UX 238 (QY QU v.kind)
def j7_ (v:g_) (s:XJ) (w:QV) (e:Ending) (w':QV):Prop:=e = YQ (s9_ v s)/\XW w.heap.size w w'
theorem i3_ (v:g_) (s:XJ) (w:QV):Calls QW 128 #[.agg (c_ v s)] w (j7_ v s w):=by
 obtain⟨p,a⟩:=a_ (s9_ v s);unfold j7_;rw[a.o];unfold s9_ at a
 cases v with
 | mk k b n t x l=>
 simp only[c_,g_.kind,g_.truth,g_.num,g_.text,g_.extra]at a ⊢;by_cases h0:k=0
 ·subst h0;have c:=q_ (show Ending.returned p = YQ (UX 233 (.agg #[])) from by rw[<-a.o];rfl);clear a;go_enter func128,ntmps128
  go_wp2_with fail;go_ret;exact⟨c.o.symm,(XV _ _).alloc (XK _) _⟩
 ·have e0:((k:Int)==0)=false:=bN_.2 h0;by_cases h1:k=1
  ·subst h1;have c:=q_ (show Ending.returned p = YQ (UX 194 (XY b)) from by rw[<-a.o];rfl);clear a;go_enter func128,ntmps128
   go_wp2_with fail;go_ret;exact⟨c.o.symm,(XV _ _).alloc (XK _) _⟩
  ·have r:((k:Int)==1)=false:=bN_.2 h1;by_cases h2:k=2
   ·subst h2;have c:=q_ (show Ending.returned p = YQ (UX 188 (QY QU n)) from by rw[<-a.o];rfl);clear a;go_enter func128,ntmps128
    go_wp2_with fail;go_ret;exact⟨c.o.symm,(XV _ _).alloc (XK _) _⟩
   ·have y:((k:Int)==2)=false:=bN_.2 h2;by_cases e:k=3
    ·subst e;have c:=q_ (show Ending.returned p = YQ (UX 189 (QZ t)) from by rw[<-a.o];rfl);clear a;go_enter func128,ntmps128
     go_wp2_with fail;go_ret;exact⟨c.o.symm,(XV _ _).alloc (XK _) _⟩
    ·have z:((k:Int)==3)=false:=bN_.2 e;by_cases f:k=4
     ·subst f;have c:=q_ (show Ending.returned p = YQ (UX 234 (QZ t)) from by rw[<-a.o];rfl);clear a;go_enter func128,ntmps128
      go_wp2_with fail;go_ret;exact⟨c.o.symm,(XV _ _).alloc (XK _) _⟩
     ·have B:((k:Int)==4)=false:=bN_.2 f;by_cases j:k=8
      ·subst j;have c:=q_ (show Ending.returned p = YQ (UX 234 (QZ t)) from by rw[<-a.o];rfl);clear a;go_enter func128,ntmps128
       go_wp2_with fail;go_ret;exact⟨c.o.symm,(XV _ _).alloc (XK _) _⟩
      ·have G:((k:Int)==8)=false:=bN_.2 j;by_cases m:k=9
       ·subst m;have c:=q_ (show Ending.returned p = YQ (UX 234 (QZ t)) from by rw[<-a.o];rfl);clear a;go_enter func128,ntmps128
        go_wp2_with fail;go_ret;exact⟨c.o.symm,(XV _ _).alloc (XK _) _⟩
       ·have I:((k:Int)==9)=false:=bN_.2 m;by_cases g:k=5
        ·subst g;have c:=q_ (show Ending.returned p = YQ (UX 191 (s)) from by rw[<-a.o];rfl);clear a;go_enter func128,ntmps128
         go_wp2_with fail;go_ret;exact⟨c.o.symm,(XV _ _).alloc (XK _) _⟩
        ·have C:((k:Int)==5)=false:=bN_.2 g;by_cases h:k=6
         ·subst h;have c:=q_ (show Ending.returned p = YQ (UX 193 (QY QU n)) from by rw[<-a.o];rfl);clear a;go_enter func128,ntmps128
          go_wp2_with fail;go_ret;exact⟨c.o.symm,(XV _ _).alloc (XK _) _⟩
         ·have D:((k:Int)==6)=false:=bN_.2 h;by_cases i:k=7
          ·subst i;have c:=q_ (show Ending.returned p = YQ (UX 193 (QY QU n)) from by rw[<-a.o];rfl);clear a;go_enter func128,ntmps128
           go_wp2_with fail;go_ret;exact⟨c.o.symm,(XV _ _).alloc (XK _) _⟩
          ·have E:((k:Int)==7)=false:=bN_.2 i;by_cases d:k=10
           ·subst d;have c:=q_ (show Ending.returned p = YQ (UX 237 (.agg #[QZ t,QZ x])) from by rw[<-a.o];rfl);clear a;go_enter func128,ntmps128
            go_wp2_with fail;go_ret;exact⟨c.o.symm,(XV _ _).alloc (XK _) _⟩
           ·have q:((k:Int)==10)=false:=bN_.2 d;have c:=q_ (show Ending.returned p = YQ (UX 238 (QY QU k)) from by rw[<-a.o];simp only[h0,h1,h2,e,f,j,m,g,h,i,d,if_false]);clear a;go_enter func128,ntmps128
            go_wp2_with fail;go_ret;exact⟨c.o.symm,(XV _ _).alloc (XK _) _⟩
def aw_ (k:Int) (b:Bool) (n:Int) (t x:ByteArray) (l:List g_) (a:Bool) (c:Int) (d e:ByteArray):Bool:=
 (b==a)&&(decide (n=c)&&(decide (t=d)&&(decide (x=e)&&(decide (l.length=0) || decide (k=5)))))
mutual
def I_:g_->Nat->Bool
 | .mk k b n t x l,d=>
  if k=0 then aw_ k b n t x l false 0 ⟨#[]⟩ ⟨#[]⟩
  else if k=1 then aw_ k b n t x l b 0 ⟨#[]⟩ ⟨#[]⟩
  else if k=2 then aw_ k b n t x l false n ⟨#[]⟩ ⟨#[]⟩
  else if k=3 then bl_ t&&aw_ k b n t x l false 0 t ⟨#[]⟩
  else if k=4 then decide (t.size<=1048576)&&aw_ k b n t x l false 0 t ⟨#[]⟩
  else if k=8 then d5_ t&&aw_ k b n t x l false 0 t ⟨#[]⟩
  else if k=9 then d8_ t&&aw_ k b n t x l false 0 t ⟨#[]⟩
  else if k=5 then decide (l.length<=4096)&&(decide (d<60)&&(g4_ l (d+1)&&aw_ k b n t x l false 0 ⟨#[]⟩ ⟨#[]⟩))
  else if k=6 then decide (0<=n)&&aw_ k b n t x l false n ⟨#[]⟩ ⟨#[]⟩
  else if k=7 then decide (0<=n)&&aw_ k b n t x l false n ⟨#[]⟩ ⟨#[]⟩
  else if k=10 then decide (t.size<=1048576)&&(d5_ x&&aw_ k b n t x l false 0 t x)
  else false
def g4_:List g_->Nat->Bool
 | [],_=>true
 | v::r,d=>I_ v d&&g4_ r d
end
theorem i0_ (l:List g_) (d:Nat):g4_ l d=l.all λv=>I_ v d:=by
 induction l with
 | nil=>simp[g4_]
 | cons v r a=>simp[g4_,a]
theorem Gm_ (d:Nat) (y:d<60) (ca:Addr) (v:g_) (s:XJ) (r:Bool) (w:QV) (h:w.cell? ca=QJ (QY QU (d:Int))) (j:ca.block<w.heap.size)
    (f:∀W:QV,XW w.heap.size w W->Calls QW 117 #[.agg (c_ v s),QY QU ((d+1:Nat):Int)] W (n_ r W)) :
    Calls QW 189 #[.agg (c_ v s),YK (QJ ca)] w (n_ (!r) w):=by
 have a:=q_ f;clear f;have i:=q_ (λo:Obj=>show (w.alloc o).cell? ca=QJ (QY QU (d:Int)) from (((XV w.heap.size w).alloc (XK _) o).cell (p:=ca) j).trans h);unfold c_ at a ⊢
 cases v with
 | mk k b n t x l=>
 simp only[g_.kind,g_.truth,g_.num,g_.text,g_.extra]at a ⊢;have q:=i.o (XX #[QY QU k,XY b,QY QU n,QZ t,QZ x,s] 39);obtain⟨g,c⟩:=a_ (d+1);rw[c.o]at a;have z:IntKind.i64.wrap ((d:Int)+1)=(g:Int):=by rw[YU _ (by omega),<-c.o];push_cast;rfl
 have w2:(d:Int)+1=(g:Int):=by rw[<-c.o];push_cast;rfl
 clear h;go_enter func189,ntmps189
 go_wp2_with fail;refine (a.o _ ((XV _ _).alloc (XK _) _)).mono ?_;rintro e B ⟨rfl,hb⟩
 have m:=q_ (((XV w.heap.size w).alloc (XK _) (XX #[QY QU k,XY b,QY QU n,QZ t,QZ x,s] 39)).trans (hb.mono (by simp)));clear hb;go_wp2_with fail;go_ret;exact⟨rfl,m.o⟩
def Ml_ (l:List g_) (d:Nat) (w:QV) (e:Ending) (w':QV):Prop:=∃r:Int,e = YQ (QY QU r)/\(decide (0<=r) = !g4_ l d)/\XW w.heap.size w w'
theorem Ld_ (l:List g_) (d:Nat) (hd:d<60) (ca:Addr) (F:Nat->Prop) (A:Option Addr) (n N:Nat) (w:QV) (O:∀g,F g->g<w.heap.size) (I:LRd w F l A n) (hn:n<=4096)
    (S:w.cell? ca=QJ (QY QU (d:Int))) (y:ca.block<w.heap.size)
    (z:∀(x:g_) (_:x∈l) (u:XJ) (W:QV),XW w.heap.size w W->VRd W F x u->Calls QW 117 #[u,QY QU ((d+1:Nat):Int)] W (n_ (I_ x (d+1)) W)) :
    Calls QW 256 #[QQ A n N,.func (.func 189) #[] #[YK (QJ ca)]] w (Ml_ l (d+1) w):=by
 have Z:=q_ I;have M:=q_ O;have L:=q_ z;have Y:=q_ S;have D:=q_ I.1;clear I O z S;go_enter func256,ntmps256
 go_wp2_with fail;go_loopw [8] (λJ wr=>∃k:Nat,k<=n/\J = QY QU (k:Nat)/\Q_ (((l.take k).all λv=>I_ v (d+1))=true)/\Q_ (XW w.heap.size w wr)) (λJ _=>n-(intOf J).toNat)
 case atStart=>exact⟨0,by omega,rfl,q_ (by simp),q_ (XV _ _)⟩
 case round=>
  obtain⟨k,hk,rfl,f,a⟩:=hrel;by_cases T:k<n
  ·obtain⟨x,m⟩:∃x,l[k]?=QJ x:=⟨l[k]'(by rw[<-D.o];exact T),XQ _⟩;have HR:=q_ (Z.o.under a.o M.o);obtain⟨ad,s,rfl,P,⟨B,G,rfl,X,U⟩,V,c0,c1,c2,c3,c4,c5⟩:=HR.o.cellsAt m;have HX:=q_ m;have j:=q_ (YZ m)
   have i:=q_ (Gm_ d hd ca x (QQ B x.list.length G) (I_ x (d+1)) wr ((a.o.cell (p:=ca) y).trans Y.o) (XZ y a.o.size)
    (λW R=>L.o x j.o _ W (a.o.trans (R.mono a.o.size)) (V.under R (λg hg=>XZ (M.o g hg) a.o.size))))
   have b:=q_ (λ(h:I_ x (d+1)=true)=>show ((l.take (k+1)).all λv=>I_ v (d+1))=true from by rw[f_ HX.o,List.all_append,f.o];simp[h]);have c:=q_ (λ(h:I_ x (d+1)=false)=>show g4_ l (d+1)=false from by rw[i0_,List.all_eq_false];exact⟨x,j.o,by simp[h]⟩);obtain⟨r,Hr⟩:=a_ (I_ x (d+1));rw[Hr.o]at i b c;unfold c_ at i;have e1:(0:Int)<=k:=by omega
   have e2:(k:Int)<n:=by omega
   clear m U V P;go_wp2_with fail;refine i.o.mono ?_;rintro e w2 ⟨rfl,t⟩;have q:=q_ (a.o.trans (t.mono a.o.size));clear t
   cases r with
   | true=>
    have HM:=q_ (b.o rfl);have w1:IntKind.i64.wrap ((k:Int)+1)=(k:Int)+1:=YU _ (by omega);go_wp2_with fail;go_roundw
    case rel=>exact⟨k+1,by omega,by go_num,HM,q⟩
    case measure=>simp[intOf];omega
   | false=>
    have E:=q_ (c.o rfl);go_wp2_with fail;go_ret;exact⟨(k:Int),rfl,by rw[E.o];simp,q.o⟩
  ·have C:k=n:=by omega
   have E:=q_ (show g4_ l (d+1)=true from by have:=f.o;rw[YJ (by rw[C,D.o];exact XK _)]at this;rw[i0_];exact this);subst C;go_wp2_with fail;go_ret;exact⟨-1,rfl,by rw[E.o];simp,a.o⟩
theorem Gu_ (l:List g_) (d:Nat) (f:XJ) (A:Option Addr) (n a:Nat) (w:QV)
    (hi:Calls QW 256 #[QQ A n a,f] w (Ml_ l d w)) :
    Calls QW 188 #[QQ A n a,f] w (n_ (!g4_ l d) w):=by
 have g:=q_ hi;clear hi;go_enter func188,ntmps188
 go_wp2_with fail;refine g.o.mono ?_;rintro e i ⟨r,rfl,b,hb⟩;have h:=q_ b;have c:=q_ hb;clear b hb;go_wp2_with fail;go_ret;exact⟨by rw[<-h.o];rfl,c.o⟩
end
end Go.Proofs.YtefhfadjajcmkaaGreatDoor
