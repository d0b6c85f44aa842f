/- The program reads of a text what the reference reads of it (plain). -/
import Derived.Test.YtefhfadjajcmkaaGreatDoorJzz
import Derived.Test.YtefhfadjajcmkaaGreatDoorR0
import Derived.Test.YtefhfadjajcmkaaGreatDoorProg
import Derived.WalkKit
import Derived.WalkSpells
import Derived.Lib.Hide
import Derived.Deep.QuietTactic
import Derived.BigQuiet
import Derived.IntWalk
import Derived.Outline
import Derived.StillTailTactics
import Derived.Deep.DeepCutAuto
import Derived.Test.YtefhfadjajcmkaaGreatDoorL0
import Derived.WalkLawsBesides
import Derived.OwnWalk
import Derived.Deep.AppendLies
import Derived.Maps.OwnSet
import Derived.Laws.IdiomStrings
import Derived.Lib.BufferRead
import Derived.Deep.RegionLaw
import Derived.Test.YtefhfadjajcmkaaGreatDoorShelf
set_option linter.unusedVariables false
set_option linter.unusedSimpArgs false
set_option maxRecDepth 100000
set_option maxHeartbeats 64000000
namespace Go.Proofs.YtefhfadjajcmkaaGreatDoor
open Go.Lib (cell_of_heap)
section
open Go Go.RowKit
inductive h_ where
 | mk (kind:Int) (truth:Bool) (num:Int) (text extra:ByteArray) (list:List h_):h_
namespace h_
def kind:h_->Int | mk k _ _ _ _ _=>k
def truth:h_->Bool | mk _ b _ _ _ _=>b
def num:h_->Int | mk _ _ n _ _ _=>n
def text:h_->ByteArray | mk _ _ _ t _ _=>t
def extra:h_->ByteArray | mk _ _ _ _ x _=>x
def list:h_->List h_ | mk _ _ _ _ _ l=>l
end h_
mutual
def T_:h_->Nat
 | .mk _ _ _ t x l=>1+t.size / 64+x.size / 64+ab_ l
def ab_:List h_->Nat
 | []=>0
 | v::r=>T_ v+ab_ r
end
theorem ir_ (v:h_):ab_ v.list<T_ v:=by cases v;simp only[T_,h_.list];omega
theorem fu_ {l:List h_} {v:h_} (h:v∈l):T_ v<=ab_ l:=by
 induction l with
 | nil=>cases h
 | cons a r b=>
  simp only[ab_];rcases List.mem_cons.1 h with rfl | h
  ·omega
  ·have:=b h;omega
theorem jm_ (a b:List h_):ab_ (a++b)=ab_ a+ab_ b:=by
 induction a with
 | nil=>simp[ab_]
 | cons v r c=>simp only[List.cons_append,ab_,c];omega
theorem wq_ (l:List h_) (k:Nat):ab_ (l.take k)<=ab_ l:=by have:=jm_ (l.take k) (l.drop k);rw[List.take_append_drop]at this;omega
def c_ (v:h_) (s:Value):Array Value:=#[.int .i64 v.kind,.bool v.truth,.int .i64 v.num,.string v.text,.string v.extra,s]
inductive VRd (w:World) (F:Nat->Prop):h_->Value->Prop where
 | mk (v:h_) (A:Option Addr) (cap:Nat) (ad:Addr) (cs:Nat->Array Value) (hcap:v.list.length<=cap) (hA:0<v.list.length->A=some ad/\F ad.block)
     (hc:∀i,i<v.list.length->(cs i).size=6/\∀j,j<6->w.cell? (ad.add (i*6+j))=(cs i)[j]?)
     (hr:∀i x,v.list[i]?=some x->VRd w F x (.agg (cs i))):VRd w F v (.agg (c_ v (.slice A v.list.length cap)))
def LRd (w:World) (F:Nat->Prop) (l:List h_) (A:Option Addr) (n:Nat):Prop:=
 n=l.length/\(0<n->∃ad,A=some ad/\F ad.block/\∀i x,l[i]?=some x->∃c:Array Value,c.size=6/\(∀j,j<6->w.cell? (ad.add (i*6+j))=c[j]?)/\VRd w F x (.agg c))
section
variable {w w':World} {F F':Nat->Prop} {v:h_} {u:Value}
theorem VRd.inv (h:VRd w F v u):∃A a,u = .agg (c_ v (.slice A v.list.length a))/\v.list.length<=a/\LRd w F v.list A v.list.length:=by
 cases h with
 | mk _ A a ad cs c f e g=>
  refine⟨A,a,rfl,c,rfl,λd=>⟨ad,(f d).1,(f d).2,λi x b=>?_⟩⟩
  have hi:i<v.list.length:=by
   rcases Nat.lt_or_ge i v.list.length with h | h
   ·exact h
   ·rw[List.getElem?_eq_none h]at b;cases b
  exact⟨cs i,(e i hi).1,(e i hi).2,g i x b⟩
theorem VRd.of_list {A:Option Addr} {d:Nat} (e:v.list.length<=d) (h:LRd w F v.list A v.list.length):VRd w F v (.agg (c_ v (.slice A v.list.length d))):=by
 by_cases f:0<v.list.length
 ·obtain⟨ad,o,m,k⟩:=h.2 f
  have b:∀i,∃c:Array Value,i<v.list.length->c.size=6/\(∀j,j<6->w.cell? (ad.add (i*6+j))=c[j]?)/\∀x,v.list[i]?=some x->VRd w F x (.agg c):=λi=>by
   by_cases hi:i<v.list.length
   ·obtain⟨c,h1,h2,g⟩:=k i _ (List.getElem?_eq_getElem hi)
    exact⟨c,λ_=>⟨h1,h2,λx a=>by
     rw[List.getElem?_eq_getElem hi]at a;injection a with a;subst a;exact g⟩⟩
   ·exact⟨#[],λh=>absurd h hi⟩
  refine .mk v A d ad (λi=>(b i).choose) e (λ_=>⟨o,m⟩) (λi hi=>⟨((b i).choose_spec hi).1,((b i).choose_spec hi).2.1⟩) λi x a=>?_
  have hi:i<v.list.length:=by
   rcases Nat.lt_or_ge i v.list.length with h | h
   ·exact h
   ·rw[List.getElem?_eq_none h]at a;cases a
  exact ((b i).choose_spec hi).2.2 x a
 ·exact .mk v A d ⟨0,0,none⟩ (λ_=>#[]) e (λh=>absurd h f) (λi hi=>absurd hi (by omega)) (λi x a=>by
    rw[List.getElem?_eq_none (by omega)]at a;cases a)
theorem VRd.keep (h:VRd w F v u) (e:∀p:Addr,F p.block->w'.cell? p=w.cell? p):VRd w' F v u:=by
 induction h with
 | mk v A c ad cs a d b k g=>
  exact .mk v A c ad cs a d (λi hi=>⟨(b i hi).1,λj f=>(e _ (by rw[block_of_add];exact (d (by omega)).2)).trans ((b i hi).2 j f)⟩) g
theorem VRd.mono (h:VRd w F v u) (e:∀g,F g->F' g):VRd w F' v u:=by
 induction h with
 | mk v A b ad cs a c d i f=>exact .mk v A b ad cs a (λh=>⟨(c h).1,e _ (c h).2⟩) d f
variable {l:List h_} {A:Option Addr} {n:Nat}
theorem LRd.keep (h:LRd w F l A n) (a:∀p:Addr,F p.block->w'.cell? p=w.cell? p):LRd w' F l A n:=
 ⟨h.1,λf=>by
  obtain⟨ad,e,b,g⟩:=h.2 f;refine⟨ad,e,b,λi x k=>?_⟩;obtain⟨c,h1,h2,d⟩:=g i x k;exact⟨c,h1,λj m=>(a _ (by rw[block_of_add];exact b)).trans (h2 j m),d.keep a⟩⟩
theorem LRd.mono (h:LRd w F l A n) (a:∀g,F g->F' g):LRd w F' l A n:=
 ⟨h.1,λd=>by
  obtain⟨ad,e,f,j⟩:=h.2 d;refine⟨ad,e,a _ f,λi x k=>?_⟩;obtain⟨c,h1,h2,b⟩:=j i x k;exact⟨c,h1,h2,b.mono a⟩⟩
theorem LRd.nil (a:Nat) (b:a=0):LRd w F [] none a:=⟨by simpa using b,λh=>absurd h (by omega)⟩
theorem LRd.drewN (h:LRd w F l A n) (m:Nat):LRd (w.drewN m) F l A n:=h.keep λ_ _=>rfl
theorem VRd.drewN (h:VRd w F v u) (m:Nat):VRd (w.drewN m) F v u:=h.keep λ_ _=>rfl
theorem LRd.under {B:Nat} (h:LRd w F l A n) (hb:Below B w w') (a:∀g,F g->g<B):LRd w' F l A n:=h.keep λ_ b=>hb.cell (a _ b)
theorem VRd.under {B:Nat} (h:VRd w F v u) (hb:Below B w w') (a:∀g,F g->g<B):VRd w' F v u:=h.keep λ_ b=>hb.cell (a _ b)
theorem LRd.at_ (h:LRd w F l A n) {i:Nat} {x:h_} (b:l[i]?=some x):∃ad s,A=some ad/\F ad.block/\(∃B a,s = .slice B x.list.length a/\x.list.length<=a/\LRd w F x.list B x.list.length)/\(∀j,j<6->w.cell? (ad.add (i*6+j))=(c_ x s)[j]?)/\VRd w F x (.agg (c_ x s)):=by
 have hi:i<l.length:=by
  rcases Nat.lt_or_ge i l.length with h | h
  ·exact h
  ·rw[List.getElem?_eq_none h]at b;cases b
 obtain⟨ad,e,o,k⟩:=h.2 (by rw[h.1];omega);obtain⟨c,_,h2,g⟩:=k i x b;obtain⟨B,a,f,d,m⟩:=g.inv;injection f with f;subst f;exact⟨ad,_,e,o,⟨B,a,rfl,d,m⟩,h2,g⟩
end
theorem a_ {b : Type} (a:b):∃x,Q_ (a=x):=⟨a,q_ rfl⟩
theorem g_ {a : Type} {l:List a} {k:Nat} {y:a} (h:l[k]?=some y):l.take (k+1)=l.take k++[y]:=by rw[List.take_add_one,h];rfl
theorem LRd.cellsAt {w:World} {F:Nat->Prop} {l:List h_} {A:Option Addr} {n:Nat} (h:LRd w F l A n) {i:Nat} {x:h_} (k:l[i]?=some x) :
    ∃ad s,A=some ad/\F ad.block/\(∃B b,s = .slice B x.list.length b/\x.list.length<=b/\LRd w F x.list B x.list.length)/\VRd w F x (.agg (c_ x s)) /\
     w.cell? (ad.add (i*6))=some (.int .i64 x.kind)/\w.cell? ⟨(ad.add (i*6)).block,(ad.add (i*6)).off+1,none⟩=some (.bool x.truth)/\w.cell? ⟨(ad.add (i*6)).block,(ad.add (i*6)).off+2,none⟩=some (.int .i64 x.num) /\
     w.cell? ⟨(ad.add (i*6)).block,(ad.add (i*6)).off+3,none⟩=some (.string x.text)/\w.cell? ⟨(ad.add (i*6)).block,(ad.add (i*6)).off+4,none⟩=some (.string x.extra)/\w.cell? ⟨(ad.add (i*6)).block,(ad.add (i*6)).off+5,none⟩=some s:=by
 obtain⟨ad,s,e,o,m,a,p⟩:=h.at_ k;have j:=a 0 (by omega);have f:=a 1 (by omega);have c:=a 2 (by omega);have g:=a 3 (by omega);have c4:=a 4 (by omega);have d:=a 5 (by omega);rw[<-add_of_add]at f c g c4 d;exact⟨ad,s,e,o,m,p,j,f,c,g,c4,d⟩
theorem dz_ (l:List h_):l.length<=ab_ l:=by
 induction l with
 | nil=>simp
 | cons v r a=>
  simp only[ab_,List.length_cons];have:1<=T_ v:=by cases v;simp only[T_];omega
  omega
open Classical in
noncomputable def bh_ (a b:h_):Bool:=decide (a=b)
open Classical in
noncomputable def g5_ (a b:List h_):Bool:=decide (a=b)
theorem nm_ (a:h_):bh_ a a=true:=by unfold bh_;simp
theorem b2_ {a b:h_} (h:a≠b):bh_ a b=false:=by unfold bh_;simp[h]
theorem tw_ {a b:List h_} (h:a≠b):g5_ a b=false:=by unfold g5_;simp[h]
theorem wr_ (a:List h_):g5_ a a=true:=by unfold g5_;simp
theorem bi_ {a b:ByteArray} (h:a≠b):(a.toList==b.toList)=false:=by rw[ByteArray.toList_eq,ByteArray.toList_eq];exact beq_eq_false_iff_ne.2 λe=>h (ByteArray.ext (Array.toList_inj.1 e))
def u_ (b:Bool) (w:World) (e:Ending) (w':World):Prop:=e = .returned (.bool b)/\Below w.heap.size w w'
theorem x_ {a b:Bool} {w w':World} (h:a=b) (hb:Below w.heap.size w w'):u_ b w (.returned (.bool a)) w':=⟨by rw[h],hb⟩
theorem L_ (w:World) (a b:Obj):Below w.heap.size w ((w.alloc a).alloc b):=(((Below.refl _ _).alloc (Nat.le_refl _) _).alloc (by simp) _)
theorem qq_ (a b:h_) {F G:Nat->Prop} (A B:Option Addr) (ca cb:Nat) (w:World) (O:∀g,F g->g<w.heap.size) (T:∀g,G g->g<w.heap.size)
    (U:LRd w F a.list A a.list.length) (S:LRd w G b.list B b.list.length)
    (y:∀w',LRd w' F a.list A a.list.length->LRd w' G b.list B b.list.length->(∀g,F g->g<w'.heap.size)->(∀g,G g->g<w'.heap.size)->Calls Tryz.prog 64 #[.slice A a.list.length ca,.slice B b.list.length cb] w' (u_ (g5_ a.list b.list) w')) :
    Calls Tryz.prog 22 #[.agg (c_ a (.slice A a.list.length ca)),.agg (c_ b (.slice B b.list.length cb))] w (u_ (bh_ a b) w):=by
 have h:=q_ y;have C:=q_ U;have D:=q_ S;have R:=q_ O;have P:=q_ T;clear y U S O T;obtain⟨k,t,n,s,x,l⟩:=a;obtain⟨I,z,r,m,j,i⟩:=b;unfold c_;simp only[h_.kind,h_.truth,h_.num,h_.text,h_.extra,h_.list]at h C D ⊢;obtain⟨p,W⟩:=a_ l.length;obtain⟨q,Y⟩:=a_ i.length;rw[W.o]at h C ⊢;rw[Y.o]at h D ⊢;have f:=q_ (L_ w (.cells #[.int .i64 k,.bool t,.int .i64 n,.string s,.string x,.slice A p ca] 39) (.cells #[.int .i64 I,.bool z,.int .i64 r,.string m,.string j,.slice B q cb] 39));by_cases h1:k=I
 ·subst h1;by_cases h2:t=z
  ·subst h2;by_cases E:n=r
   ·subst E;by_cases J:s=m
    ·subst J;by_cases L:x=j
     ·subst L;have hb:g5_ l i=bh_ (.mk k t n s x l) (.mk k t n s x i):=by unfold g5_ bh_;simp
      have N:=q_ hb;have X:=q_ (h.o _ (C.o.under f.o R.o) (D.o.under f.o P.o) (λg M=>by have:=R.o g M;have:=f.o.size;omega) (λg M=>by have:=P.o g M;have:=f.o.size;omega));clear hb;go_enter Tryz.func22,Tryz.ntmps22
      go_wp2_with fail;refine X.o.mono ?_;rintro e w5 ⟨rfl,V⟩;rw[N.o];go_wp2_with fail;go_ret;exact x_ rfl (f.o.trans (V.mono f.o.size))
     ·have t5:=bi_ L;have c:=b2_ (a:=.mk k t n s x l) (b:=.mk k t n s j i) (by simp[L]);have d:=q_ c;clear c L;go_enter Tryz.func22,Tryz.ntmps22
      go_wp2_with fail;go_ret;exact x_ d.o.symm f.o
    ·have Z:=bi_ J;have c:=b2_ (a:=.mk k t n s x l) (b:=.mk k t n m j i) (by simp[J]);have d:=q_ c;clear c J;go_enter Tryz.func22,Tryz.ntmps22
     go_wp2_with fail;go_ret;exact x_ d.o.symm f.o
   ·have t3:(n==r)=false:=by simpa using E
    have c:=b2_ (a:=.mk k t n s x l) (b:=.mk k t r m j i) (by simp[E]);have d:=q_ c;clear c E;go_enter Tryz.func22,Tryz.ntmps22
    go_wp2_with fail;go_ret;exact x_ d.o.symm f.o
  ·have t2:(t==z)=false:=by simpa using h2
   have c:=b2_ (a:=.mk k t n s x l) (b:=.mk k z r m j i) (by simp[h2]);have d:=q_ c;clear c h2;go_enter Tryz.func22,Tryz.ntmps22
   go_wp2_with fail;go_ret;exact x_ d.o.symm f.o
 ·have t1:(k==I)=false:=by simpa using h1
  have c:=b2_ (a:=.mk k t n s x l) (b:=.mk I z r m j i) (by simp[h1]);have d:=q_ c;clear c h1;go_enter Tryz.func22,Tryz.ntmps22
  go_wp2_with fail;go_ret;exact x_ d.o.symm f.o
theorem tx_ {a : Type} {l m:List a} {k:Nat} (h:l.take k=m.take k) (h1:l.length<=k) (h2:m.length<=k):l=m:=by rw[List.take_of_length_le h1,List.take_of_length_le h2]at h;exact h
theorem Hl_ (N:Nat):∀(l m:List h_) (_:ab_ l<N) (F G:Nat->Prop) (A B:Option Addr) (b p ca cb:Nat) (w:World) (_:ab_ l<=1000000000000) (_:∀g,F g->g<w.heap.size) (_:∀g,G g->g<w.heap.size) (_:LRd w F l A b) (_:LRd w G m B p),
    Calls Tryz.prog 64 #[.slice A b ca,.slice B p cb] w (u_ (g5_ l m) w):=by
 induction N with
 | zero=>exact λ_ _ h=>absurd h (Nat.not_lt_zero _)
 | succ N ih=>
  intro l m hN F G A B b p ca cb w q hF hG P U;have HL:=q_ P;have HM:=q_ U;have HF:=q_ hF;have HG:=q_ hG;have IH:=q_ ih;have j:b=l.length:=P.1;have a6:b<=1000000000000:=by have:=dz_ l;omega
  have f:p=m.length:=U.1;have C:=q_ j;have J:=q_ f;clear P U hF hG ih;by_cases E:b=p
  ·subst E;clear j f;go_enter Tryz.func64,Tryz.ntmps64
   go_wp2_with fail;go_loopw [5] (λS wr=>∃k:Nat,k<=b/\S = .int .i64 (k:Nat)/\Q_ (l.take k=m.take k)/\Below w.heap.size w wr) (λS _=>b-(intOf S).toNat)
   case atStart=>exact⟨0,by omega,rfl,q_ (by simp),Below.refl _ _⟩
   case round=>
    obtain⟨k,hk,rfl,M,d⟩:=hrel;have s:=q_ d;have a1:=q_ (HL.o.under d HF.o);have a3:=q_ (HM.o.under d HG.o);have i:w.heap.size<=wr.heap.size:=d.size;clear d;by_cases a7:k<b
    ·obtain⟨x,z⟩:∃x,l[k]?=some x:=⟨l[k]'(by have:=C.o;omega),List.getElem?_eq_getElem _⟩;obtain⟨y,T⟩:∃y,m[k]?=some y:=⟨m[k]'(by have:=J.o;omega),List.getElem?_eq_getElem _⟩;have X:=fu_ (List.mem_of_getElem? z);have Z:=ir_ x;obtain⟨ad,sx,rfl,_,⟨Bx,cx,rfl,_,O⟩,_,c0,c1,c2,c3,c4,c5⟩:=a1.o.cellsAt z;obtain⟨ae,sy,rfl,_,⟨Y,cy,rfl,_,D⟩,_,d0,d1,d2,d3,d4,d5⟩:=a3.o.cellsAt T
     have a:=q_ (qq_ x y Bx Y cx cy wr.drew (F:=F) (G:=G) (λg R=>Nat.lt_of_lt_of_le (HF.o g R) i) (λg R=>Nat.lt_of_lt_of_le (HG.o g R) i) (O.keep λ_ _=>rfl) (D.keep λ_ _=>rfl)
      (λw' h1 h2 h3 h4=>IH.o x.list y.list (by omega) F G Bx Y _ _ cx cy w' (by omega) h3 h4 h1 h2))
     have HX:=q_ z;have HY:=q_ T;have e1:(0:Int)<=k:=by omega
     have e2:(k:Int)<b:=by omega
     clear z T X Z O D;unfold c_ at a;obtain⟨lx,W⟩:=a_ x.list.length;obtain⟨ly,a4⟩:=a_ y.list.length;rw[W.o]at c5 a;rw[a4.o]at d5 a;by_cases r:x=y
     ·have q:=nm_ x;subst r;rw[q]at a;clear q;go_wp2_with fail;go_still_tail 8,(by kernel_rfl)
      change wpList _ _ _ _ _ (World.drew _);go_wp2_with fail;refine a.o.mono ?_;rintro e w5 ⟨rfl,t⟩;go_wp2_with fail;go_roundw
      case rel=>exact⟨k+1,by omega,by go_num,q_ (by rw[g_ HX.o,g_ HY.o,M.o]),s.o.drew.trans (t.mono i)⟩
      case measure=>simp[intOf];omega
     ·have q:=b2_ r;have c:g5_ l m=false:=tw_ (λe=>r (by have h1:=HX.o;rw[e,HY.o]at h1;exact (Option.some.inj h1).symm));have a5:=q_ c;rw[q]at a;clear q c;go_wp2_with fail;go_still_tail 8,(by kernel_rfl)
      change wpList _ _ _ _ _ (World.drew _);go_wp2_with fail;refine a.o.mono ?_;rintro e w5 ⟨rfl,t⟩;go_wp2_with fail;go_ret;exact x_ a5.o.symm (s.o.drew.trans (t.mono i))
    ·have V:k=b:=by omega
     subst V;have c:l=m:=tx_ M.o (by have:=C.o;omega) (by have:=J.o;omega);have L:g5_ l m=true:=by rw[c];exact wr_ m
     have a0:=q_ L;clear c L;go_wp2_with fail;go_ret;exact x_ a0.o.symm s.o
  ·have I:g5_ l m=false:=tw_ (λe=>E (by rw[j,f,e]));have a2:=q_ I;have t1:((b:Int) != p)=true:=by simp;omega
   clear I j f;go_enter Tryz.func64,Tryz.ntmps64
   go_wp2_with fail;go_ret;exact x_ a2.o.symm (Below.refl _ _)
def r7_ (c:UInt8):Bool:=decide (c.toNat<=32\/c.toNat=60\/c.toNat=62)
def g0_ (s:ByteArray):Bool:=decide (1<=s.size/\s.size<=1048576)&&s.data.toList.all λc=>!r7_ c
theorem a1_ (s:ByteArray):s.data.toList.length=s.size:=Array.length_toList
theorem jn_ (s:ByteArray) (k:Nat) (h:k<s.size):s.data.toList[k]?=some s[k]:=by rw[List.getElem?_eq_getElem (by rw[a1_];exact h)];rfl
theorem nn_ {p:UInt8->Bool} {l:List UInt8} {k:Nat} {c:UInt8} (h:l[k]?=some c) (a:(l.take k).all p=true) (b:p c=true):(l.take (k+1)).all p=true:=by rw[g_ h,List.all_append,a];simp[b]
theorem r8_ {p:UInt8->Bool} {l:List UInt8} {k:Nat} {c:UInt8} (h:l[k]?=some c) (a:p c=false):l.all p=false:=by rw[List.all_eq_false];exact⟨c,List.mem_of_getElem? h,by simp[a]⟩
theorem ar_ {a b:Bool} (h:a=b):Ending.returned (.bool a) = .returned (.bool b):=by rw[h]
theorem yu_ (s:ByteArray) (J:s.size<=9223372036854775807) (w:World):Calls Tryz.prog 186 #[.string s] w λe w'=>e = .returned (.bool (g0_ s))/\w'=w:=by
 go_enter Tryz.func186,Tryz.ntmps186
 go_wp2_with fail;go_loop [6] (λi=>∃k:Nat,k<=s.size/\i = .int .i64 (k:Nat)/\Q_ ((s.data.toList.take k).all (λc=>!r7_ c)=true)) (λi=>s.size-(intOf i).toNat)
 case atStart=>exact⟨0,by omega,rfl,q_ (by simp)⟩
 case round=>
  obtain⟨k,I,rfl,d⟩:=hrel;by_cases y:k<s.size
  ·have g:=q_ (jn_ s k y);obtain⟨x,q⟩:∃x:Nat,s[k].toNat=x:=⟨_,rfl⟩;have h:=q_ q;have G:x<256:=by rw[<-q];exact s[k].toNat_lt
   by_cases D:x<=32
   ·have b:=q_ (r8_ (p:=λc=>!r7_ c) g.o (by simp[r7_,h.o,D]));have t:(x:Int)<=32:=by omega
    go_wp2_with fail;go_ret;exact⟨ar_ (by unfold g0_;rw[b.o];simp),rfl⟩
   ·have t:decide ((x:Int)<=32)=false:=decide_eq_false (by omega);by_cases C:x=60
    ·have b:=q_ (r8_ (p:=λc=>!r7_ c) g.o (by simp[r7_,h.o,C]));have z:((x:Int)==60)=true:=by simp;omega
     go_wp2_with fail;go_ret;exact⟨ar_ (by unfold g0_;rw[b.o];simp),rfl⟩
    ·have z:((x:Int)==60)=false:=by simp;omega
     by_cases E:x=62
     ·have b:=q_ (r8_ (p:=λc=>!r7_ c) g.o (by simp[r7_,h.o,E]));have r:((x:Int)==62)=true:=by simp;omega
      go_wp2_with fail;go_ret;exact⟨ar_ (by unfold g0_;rw[b.o];simp),rfl⟩
     ·have r:((x:Int)==62)=false:=by simp;omega
      have j:=q_ (nn_ g.o d.o (by simp[r7_,h.o];omega));go_wp2_with fail;go_round
      case rel=>exact⟨k+1,by omega,by go_num,q_ j.o⟩
      case measure=>simp[intOf];omega
  ·have m:k=s.size:=by omega
   have a:=d.o;rw[List.take_of_length_le (by rw[a1_];omega)]at a;have f:=q_ a;clear d a;subst m;by_cases h0:1<=s.size
   ·have h1:decide ((1:Int)<=s.size)=true:=decide_eq_true (by omega);by_cases h2:s.size<=1048576
    ·have B:decide ((s.size:Int)<=1048576)=true:=decide_eq_true (by omega);go_wp2_with fail;go_ret;exact⟨ar_ (by unfold g0_;rw[f.o];simp;omega),rfl⟩
    ·have B:decide ((s.size:Int)<=1048576)=false:=decide_eq_false (by omega);go_wp2_with fail;go_ret;exact⟨ar_ (by unfold g0_;rw[f.o];simp;omega),rfl⟩
   ·have h1:decide ((1:Int)<=s.size)=false:=decide_eq_false (by omega);go_wp2_with fail;go_ret;exact⟨ar_ (by unfold g0_;rw[f.o];simp;omega),rfl⟩
def no_ (x:Nat):Bool:=decide ((97<=x/\x<=122)\/(65<=x/\x<=90)\/x=95)
def g1_ (x:Nat):Bool:=decide (48<=x/\x<=57)
def ik_ (c:UInt8):Bool:=no_ c.toNat || g1_ c.toNat
def ee_ (s:ByteArray):Bool:=decide (1<=s.size/\s.size<=64)&&((s.data.toList.head?.map λc=>!g1_ c.toNat).getD false&&s.data.toList.all ik_)
theorem qr_ {s:ByteArray} (h:0<s.size):s.data.toList.head?=some (s[0]' h):=by have:=jn_ s 0 h;rw[List.head?_eq_getElem?];exact this
theorem qs_ {s:ByteArray} (h:¬(1<=s.size/\s.size<=64)):ee_ s=false:=by unfold ee_;simp only[decide_eq_false h];rfl
theorem Hm_ {s:ByteArray} {k:Nat} {c:UInt8} (h:s.data.toList[k]?=some c) (a:ik_ c=false):ee_ s=false:=by unfold ee_;rw[r8_ h a];simp
theorem C2_ {s:ByteArray} {c:UInt8} (h:s.data.toList[0]?=some c) (a:g1_ c.toNat=true):ee_ s=false:=by unfold ee_;rw[List.head?_eq_getElem?,h];simp[a]
theorem C3_ {s:ByteArray} (h1:1<=s.size) (h2:s.size<=64) (h0:∀c,s.data.toList[0]?=some c->g1_ c.toNat=false) (a:s.data.toList.all ik_=true):ee_ s=true:=by unfold ee_;rw[a,qr_ (by omega)];have:=h0 _ (jn_ s 0 (by omega));simp[h1,h2,this]
theorem C4_ (s:ByteArray) (hs:s.size<=9223372036854775807) (w:World):Calls Tryz.prog 187 #[.string s] w λe w'=>e = .returned (.bool (ee_ s))/\w'=w:=by
 go_enter Tryz.func187,Tryz.ntmps187
 go_wp2_with fail;go_loop [8] (λi=>∃k:Nat,k<=s.size/\i = .int .i64 (k:Nat)/\Q_ ((s.data.toList.take k).all ik_=true/\∀c,0<k->s.data.toList[0]?=some c->g1_ c.toNat=false)) (λi=>s.size-(intOf i).toNat)
 case atStart=>exact⟨0,by omega,rfl,q_ ⟨by simp,λc h=>absurd h (by omega)⟩⟩
 case round=>
  obtain⟨k,hk,rfl,b⟩:=hrel;by_cases N:k<s.size
  ·have q:=q_ (jn_ s k N);obtain⟨x,L⟩:∃x:Nat,s[k].toNat=x:=⟨_,rfl⟩;have y:=q_ L;have a0:x<256:=by rw[<-L];exact s[k].toNat_lt
   go_upto_region 5 with fail;go_cut [5] (λY X=>Y = .bool (no_ x)/\X=w)
   case first=>
    by_cases S:97<=x
    ·by_cases W:x<=122
     ·have B:decide ((97:Int)<=x)=true:=decide_eq_true (by omega);have I:decide ((x:Int)<=122)=true:=decide_eq_true (by omega);have a:no_ x=true:=decide_eq_true (.inl ⟨S,W⟩);go_wp2_with fail;go_meet;exact⟨by rw[a],rfl⟩
     ·have B:decide ((97:Int)<=x)=true:=decide_eq_true (by omega);have I:decide ((x:Int)<=122)=false:=decide_eq_false (by omega);have r:decide ((65:Int)<=x)=true:=decide_eq_true (by omega);have O:decide ((x:Int)<=90)=false:=decide_eq_false (by omega);have G:((x:Int)==95)=false:=by simp;omega
      have a:no_ x=false:=decide_eq_false (by omega);go_wp2_with fail;go_meet;exact⟨by rw[a],rfl⟩
    ·have B:decide ((97:Int)<=x)=false:=decide_eq_false (by omega);by_cases V:65<=x
     ·have r:decide ((65:Int)<=x)=true:=decide_eq_true (by omega);by_cases U:x<=90
      ·have O:decide ((x:Int)<=90)=true:=decide_eq_true (by omega);have a:no_ x=true:=decide_eq_true (.inr (.inl ⟨V,U⟩));go_wp2_with fail;go_meet;exact⟨by rw[a],rfl⟩
      ·have O:decide ((x:Int)<=90)=false:=decide_eq_false (by omega);by_cases P:x=95
       ·have G:((x:Int)==95)=true:=by simp;omega
        have a:no_ x=true:=decide_eq_true (.inr (.inr P));clear P;go_wp2_with fail;go_meet;exact⟨by rw[a],rfl⟩
       ·have G:((x:Int)==95)=false:=by simp;omega
        have a:no_ x=false:=decide_eq_false (by omega);go_wp2_with fail;go_meet;exact⟨by rw[a],rfl⟩
     ·have r:decide ((65:Int)<=x)=false:=decide_eq_false (by omega);have G:((x:Int)==95)=false:=by simp;omega
      have a:no_ x=false:=decide_eq_false (by omega);go_wp2_with fail;go_meet;exact⟨by rw[a],rfl⟩
   case rest=>
    obtain⟨D,rfl⟩:=hcut;by_cases a:no_ x=true
    ·rw[a]at D;subst D;have m:ik_ s[k]=true:=by unfold ik_;rw[y.o,a];rfl
     have E:g1_ x=false:=by unfold no_ at a;have:=of_decide_eq_true a;exact decide_eq_false (by omega)
     have p:=q_ (nn_ q.o b.o.1 m)
     have C:=q_ (show ∀c,0<k+1->s.data.toList[0]?=some c->g1_ c.toNat=false from λc _ h0=>by
      by_cases f:k=0
      ·have h1:=q.o;subst f;rw[h0]at h1;rw[Option.some.inj h1,y.o];exact E
      ·exact b.o.2 c (by omega) h0)
     clear m a E;go_wp2_with fail;go_round
     case rel=>exact⟨k+1,by omega,by go_num,q_ ⟨p.o,C.o⟩⟩
     case measure=>simp[intOf];omega
    ·have a:no_ x=false:=by simpa using a
     rw[a]at D;subst D;have T:=q_ a;clear a;by_cases C:48<=x/\x<=57
     ·have B:decide ((x:Int)<48)=false:=decide_eq_false (by omega);have I:decide ((57:Int)<x)=false:=decide_eq_false (by omega);have d:g1_ x=true:=decide_eq_true C;by_cases f:k=0
      ·have j:=q_ (show ee_ s=false from C2_ (c:=s[k]) (by have h1:=q.o;subst f;exact h1) (by rw[y.o];exact d));have r:((k:Int)==0)=true:=by simp;omega
       clear d f;go_wp2_with fail;go_ret;exact⟨ar_ j.o.symm,rfl⟩
      ·have m:ik_ s[k]=true:=by unfold ik_;rw[y.o,d];simp
       have p:=q_ (nn_ q.o b.o.1 m);have M:=q_ (show ∀c,0<k+1->s.data.toList[0]?=some c->g1_ c.toNat=false from λc _ h0=>b.o.2 c (by omega) h0);have r:((k:Int)==0)=false:=by simp;omega
       clear d m;go_wp2_with fail;go_round
       case rel=>exact⟨k+1,by omega,by go_num,q_ ⟨p.o,M.o⟩⟩
       case measure=>simp[intOf];omega
     ·have d:g1_ x=false:=decide_eq_false C;have m:ik_ s[k]=false:=by unfold ik_;rw[y.o,d,T.o];rfl
      have j:=q_ (Hm_ q.o m);clear d m;by_cases f:k=0
      ·have r:((k:Int)==0)=true:=by simp;omega
       clear f;go_wp2_with fail;go_ret;exact⟨ar_ j.o.symm,rfl⟩
      ·have r:((k:Int)==0)=false:=by simp;omega
       by_cases Z:x<48
       ·have B:decide ((x:Int)<48)=true:=decide_eq_true (by omega);go_wp2_with fail;go_ret;exact⟨ar_ j.o.symm,rfl⟩
       ·have B:decide ((x:Int)<48)=false:=decide_eq_false (by omega);have I:decide ((57:Int)<x)=true:=decide_eq_true (by omega);go_wp2_with fail;go_ret;exact⟨ar_ j.o.symm,rfl⟩
  ·have J:k=s.size:=by omega
   have g:=b.o;rw[List.take_of_length_le (by rw[a1_];omega)]at g;have t:=q_ g;clear b g;subst J;by_cases h0:1<=s.size
   ·have h1:decide ((1:Int)<=s.size)=true:=decide_eq_true (by omega);by_cases h2:s.size<=64
    ·have R:decide ((s.size:Int)<=64)=true:=decide_eq_true (by omega);have z:=q_ (C3_ h0 h2 (λc q=>t.o.2 c (by omega) q) t.o.1);go_wp2_with fail;go_ret;exact⟨ar_ z.o.symm,rfl⟩
    ·have R:decide ((s.size:Int)<=64)=false:=decide_eq_false (by omega);have z:=q_ (qs_ (s:=s) (by omega));go_wp2_with fail;go_ret;exact⟨ar_ z.o.symm,rfl⟩
   ·have h1:decide ((1:Int)<=s.size)=false:=decide_eq_false (by omega);have z:=q_ (qs_ (s:=s) (by omega));go_wp2_with fail;go_ret;exact⟨ar_ z.o.symm,rfl⟩
def np_ (w:World) (A:Option Addr) (D:List Nat):Prop:=∀(i:Nat) (x:Nat),D[i]?=some x->∃ad,A=some ad/\(ad.add i).block<w.heap.size/\w.cell? (ad.add i)=some (.int .i64 (x:Int))
theorem np_.under {w w':World} {A:Option Addr} {D:List Nat} (h:np_ w A D) (hb:Below w.heap.size w w'):np_ w' A D:=λi x b=>by
 obtain⟨ad,c,a,d⟩:=h i x b;exact⟨ad,c,Nat.lt_of_lt_of_le a hb.size,(hb.cell (p:=ad.add i) a).trans d⟩
def atD (D:List Nat) (i:Nat):Nat:=(D[i]?).getD 0
def l4_ (D:List Nat):Bool:=D.all (· == 0)
end
section
open Go Go.RowKit Go.Maps Go.WideMaps
theorem a5_ {w w':World} {o:Obj} {a:Option Nat} (h:(w.alloc o).grownBy w' a):w.grownBy w' a:=
 ⟨h.os,h.tape,h.output,Nat.le_trans (by simp) h.size,λk c b=>(h.block k (by simp;omega) b).trans (Below.heap_alloc w o k c)⟩
theorem jo_ {P:Program} {wr:World} {j:Array Oper} {rest:List Oper} {o:Oper} {a:Act} {Q:Exit->Act->World->Prop} (r:o.guard=none) (s x:Operand) (t:TypeId)
    (O:o.op = .call { callee:=.builtin .append,args:=#[s,x],argTypes:=#[t,t] })
    (b:Nat) (e:TypeId) (z:Value) (size bytes:Nat) (ht:P.underlying t=some (.slice e)) (f:(P.info? e).map (λi=>(i.zero,i.size,i.bytes))=some (some z,size,bytes))
    (q:z.cells.size=size) (C:0<size)
    (v:Value) (n:Nat) (xs:List Value) (N:a.eval s=v) (k:wr.ownsRow b e size v n xs) (E:b<=wr.heap.size)
    (cs:Array Value) (m c:Nat) (I:a.eval x = .slice (some ⟨wr.heap.size,0,none⟩) m c) (J:cs.size=m*size) (h1:∀u∈cs.toList,u.oneCell'=true)
    (y:0<m) (M:n+m<=100000000) (hb:bytes<=1000)
    (h:∀g d w',w'.ownsRow b e size (.slice (some ⟨g,0,none⟩) (n+m) d) (n+m) (xs++cs.toList)->wr.grownBy w' v.ownBlock->(v.ownBlock=some g\/wr.heap.size<=g)->wpList P j Q rest (a.put o.dst (.slice (some ⟨g,0,none⟩) (n+m) d)) w'):wpList P j Q (o::rest) a (wr.alloc (.cells cs e)):=by
 obtain⟨L,hi,D,B,p⟩:=info_parts f
 refine wpList_append_lies _ r s x t O b e L z size bytes ht hi D B p q C v n xs N (k.alloc _) ⟨wr.heap.size,0,none⟩ m c cs.toList I (by simpa using J)
  (World.news_of_block (heap_alloc_new wr _)) h1 y (by unfold maxLen;omega) (Nat.le_trans (Nat.mul_le_mul M hb) (by decide)) (by simp;omega) _ rfl
  (λg d w' h1 h2 G _=>h g d w' h1 (a5_ h2) (G.imp id (λe=>by rw[e];simp)))
def VS (s:ByteArray):Prop:=s.size<=maxLen
def if_ (s:ByteArray):Lit:=.string s.data.toList
theorem ty_:∀x y:ByteArray,VS x->VS y->if_ x=if_ y->x=y:=λx y _ _ h=>by
 injection h with h;exact ByteArray.ext (Array.toList_inj.1 h)
theorem nq_:∀x:ByteArray,VS x->WideAt.IsKeyLit (if_ x):=λ_ _=>trivial
theorem C5_:Keyed Tryz.prog 9:=string_keyed Tryz.underlying9
theorem ws_:(Tryz.prog.info? 9).map (λi=>(i.zero,i.size,i.bytes))=some (some (.string ⟨#[]⟩),1,16):=by kernel_rfl
theorem Hn_ (x:ByteArray):∀u∈(#[Value.string x]:Array Value).toList,u.oneCell'=true:=by intro u a;simp at a;subst a;rfl
theorem Kh_ {X:DataW Unit} {a b:Int} (h1:X = .lit (.int .i64 a)) (h2:X = .lit (.int .i64 b)):a=b:=by have:=h1.symm.trans h2;injection this with this;injection this
theorem infoByte:(Tryz.prog.info? 5).map (λi=>(i.zero,i.size,i.bytes))=some (some (.int .u8 0),1,1):=by kernel_rfl
theorem r9_ (x:Int):∀u∈(#[Value.int .u8 x]:Array Value).toList,u.oneCell'=true:=by intro u a;simp at a;subst a;rfl
theorem tz_ {w:World} {B d:Nat} {e:TypeId} {a:Nat} {v:Value} {n:Nat} {xs:List Value} (h:w.ownsRow B e a v n xs) (f:d<=B):w.ownsRow d e a v n xs:=by
 refine⟨h.1,?_⟩;rcases h.2 with h0 | ⟨g,b,c,rfl,hb,rest⟩
 ·exact .inl h0
 ·exact .inr ⟨g,b,c,rfl,Nat.le_trans f hb,rest⟩
def t0_ (l:List UInt8):ByteArray:=⟨l.toArray⟩
theorem C6_ {w:World} {b:Nat} {v:Value} {l:List UInt8} (h:w.ownsRow b 5 1 v l.length (Lib.byteCells l)):(convert 197 9 v).run Tryz.prog w = .ok (.string (t0_ l)) w:=by
 have c:Tryz.prog.underlying 5=some (.int .u8):=by kernel_rfl
 have d:Tryz.prog.underlying 9=some .string:=by kernel_rfl
 rcases h.2 with⟨rfl,h0⟩ | ⟨g,e,i,rfl,_,f,_,_,_,a⟩
 ·obtain rfl:l=[]:=List.eq_nil_of_length_eq_zero h0;exact Lib.run_convert_nil_bytes w 197 9 5 0 Tryz.underlying197 c d
 ·exact run_convert_bytes_back w 197 9 5 ⟨g,0,none⟩ e l Tryz.underlying197 c d (Lib.bytes_of_row f (by simpa using a))
def Jv_ (w:World) (v a:Value):Prop:=a.ownBlock=v.ownBlock\/∀g,a.ownBlock=some g->w.heap.size<=g
theorem Jv_.refl (w:World) (v:Value):Jv_ w v v:=.inl rfl
theorem g6_ {w:World} {c e d g:Nat} {v:Value} {n:Nat} {xs:List Value} (h:w.ownsRow c e d v n xs) (a:v.ownBlock=some g):∃b,w.heap[g]?=some (.cells b e (0,0)):=by
 rcases h.2 with⟨h0,_⟩ | ⟨j,i,b,h0,_,f,_⟩
 ·rw[h0]at a;cases a
 ·rw[h0]at a;injection a with a;subst a;exact⟨_,f⟩
theorem c8_ {w:World} {a e b c C:Nat} {v:Value} {n:Nat} {xs:List Value} (h:w.ownsRow a e b v n xs) {cs:Array Value} (f:w.heap[c]?=some (.cells cs C (0,0))) (d:e≠C):v.ownBlock≠some c:=λg=>by
 obtain⟨i,h1⟩:=g6_ h g;rw[f]at h1;injection h1 with h1;injection h1 with _ h1;exact d h1.symm
theorem hz_ {w:World} {d a e f c b:Nat} {v u:Value} {n m:Nat} {xs p:List Value} (h:w.ownsRow d e c v n xs) (k:w.ownsRow a f b u m p) (i:e≠f):∀g,u.ownBlock=some g->v.ownBlock≠some g:=λg j q=>by
 obtain⟨r,h1⟩:=g6_ h q;obtain⟨o,h2⟩:=g6_ k j;rw[h1]at h2;injection h2 with h2;injection h2 with _ h2;exact i h2
theorem b_ {w:World} {c:Nat} {o:Obj} (h:w.heap[c]?=some o):c<w.heap.size:=by
 rcases Nat.lt_or_ge c w.heap.size with a | a
 ·exact a
 ·rw[Array.getElem?_eq_none a]at h;cases h
theorem wt_ {w:World} {a e b:Nat} {v:Value} {n:Nat} {xs:List Value} (h:w.ownsRow a e b v n xs):∃A c,v = .slice A n c:=by
 rcases h.2 with⟨rfl,h0⟩ | ⟨g,c,d,rfl,_⟩
 ·exact⟨none,0,by rw[h0]⟩
 ·exact⟨_,c,rfl⟩
theorem Ho_:(Tryz.prog.info? 2).map (λi=>(i.zero,i.size,i.bytes))=some (some (.int .i64 0),1,8):=by kernel_rfl
theorem yv_ (k:IntKind) (x:Int):∀u∈(#[Value.int k x]:Array Value).toList,u.oneCell'=true:=by intro u a;simp at a;subst a;rfl
def di_ (s:ByteArray):Bool:=s.data.toList.head?==some 45
def mm_ (s:ByteArray):Bool:=s.data.toList.head?==some 45 || s.data.toList.head?==some 43
def cp_ (s:ByteArray):ByteArray:=cond (mm_ s) (s.extract 1 s.size) s
def cx_:List UInt8->Nat->Option Nat->Option (Option Nat)
 | [],_,p=>some p
 | c::l,i,p=>cond (c==46&&p.isNone) (cx_ l (i+1) (some i)) (cond (g1_ c.toNat) (cx_ l (i+1) p) none)
def d0_:List UInt8->List Nat
 | []=>[]
 | c::l=>d0_ l++cond (c==46) [] [c.toNat-48]
def nr_ (n:Nat):Option Nat->Nat
 | none=>0
 | some i=>n-1-i
def is_ (s:ByteArray):Option (Bool×List Nat×Nat):=
 match cx_ (cp_ s).data.toList 0 none with
 | none=>none
 | some p=>cond (decide ((cp_ s).size=0) || (p==some 0) || (p==some ((cp_ s).size-1))) none
     (some (di_ s,d0_ (cp_ s).data.toList,nr_ (cp_ s).size p))
theorem Hp_:(Tryz.prog.info? 3).map (λi=>(i.zero,i.size,i.bytes))=some (some (.int .i64 0),1,8):=by kernel_rfl
theorem Hq_ {s:ByteArray} (h:0<s.size) (h1:s[0].toNat=45):di_ s=true/\mm_ s=true/\cp_ s=s.extract 1 s.size:=by have h2:s[0]=45:=UInt8.toNat_inj.1 h1;have a:=qr_ h;unfold cp_ mm_ di_;rw[a,h2];exact⟨rfl,rfl,rfl⟩
theorem zw_ {s:ByteArray} (h:¬0<s.size):di_ s=false/\mm_ s=false/\cp_ s=s:=by have a:s.data.toList=[]:=List.eq_nil_of_length_eq_zero (by rw[a1_];omega);unfold cp_ mm_ di_;rw[a];exact⟨rfl,rfl,rfl⟩
theorem t1_ (s:ByteArray):(cp_ s).size<=s.size:=by
 unfold cp_
 cases mm_ s
 ·exact Nat.le_refl _
 ·simp
theorem Ki_ {l:List UInt8}:∀{i:Nat} {p q:Option Nat},cx_ l i p=some q->∀c∈l,c=46\/g1_ c.toNat=true:=by
 induction l with
 | nil=>intro i p q _ c a;cases a
 | cons d l b=>
  intro i p q h c a;unfold cx_ at h
  cases h1:(d==46&&p.isNone) with
  | true=>
   rw[h1]at h;rcases List.mem_cons.1 a with rfl | a
   ·exact .inl (beq_iff_eq.1 (Bool.and_eq_true_iff.1 h1).1)
   ·exact b h c a
  | false=>
   rw[h1]at h
   cases h2:g1_ d.toNat with
   | true=>
    rw[h2]at h;rcases List.mem_cons.1 a with rfl | a
    ·exact .inr h2
    ·exact b h c a
   | false=>rw[h2]at h;cases h
theorem t2_ (l:List UInt8):(d0_ l).length<=l.length:=by
 induction l with
 | nil=>simp[d0_]
 | cons c l a=>
  unfold d0_
  cases h:c==46<;>simp<;>omega
def sa_ (D:List Nat) (S:Nat):Nat->Nat->Nat
 | 0,k=>k
 | f+1,k=>if k<S/\atD D k=0 then sa_ D S f (k+1) else k
def l5_ (D:List Nat) (S:Nat):Nat->Nat
 | 0=>0
 | h+1=>if S+1<h+1/\atD D h=0 then l5_ D S h else h+1
def ns_ (D:List Nat) (S:Nat):Nat:=sa_ D S S 0
def l6_ (D:List Nat) (S:Nat):Nat:=max (l5_ D S D.length) (S+1)
theorem Hr_ (D:List Nat) (S:Nat):∀f k,k+f<=S->sa_ D S f k<=S:=by
 intro f;induction f with
 | zero=>intro k h;exact h
 | succ f a=>intro k h;unfold sa_;split;exact a _ (by omega);omega
theorem C7_ (D:List Nat) (S:Nat):∀h,l5_ D S h<=h:=by
 intro h;induction h with
 | zero=>exact Nat.le_refl _
 | succ h a=>unfold l5_;split;omega;omega
structure yw_ (w:World) (b:Nat) (neg:Bool) (A:Option Addr) (n cap S:Nat) (D:List Nat) (wr:World):Prop where
 below:Below w.heap.size w wr
 blk:wr.heap[b]?=some (.cells #[.bool neg,.slice A n cap,.int .i64 (S:Int)] 277 (0,0))
 ints:np_ wr A D
 size:b+1<=wr.heap.size
theorem yw_.drewN {w wr:World} {b n a S:Nat} {c:Bool} {A:Option Addr} {D:List Nat} (h:yw_ w b c A n a S D wr) (m:Nat):yw_ w b c A n a S D (wr.drewN m):=
 ⟨⟨h.below.os,h.below.tape,h.below.output,h.below.size,h.below.block⟩,h.blk,h.ints,h.size⟩
def wu_ (L:List UInt8):List Value:=L.map λc=>Value.int .u8 (c.toNat:Int)
structure kt_ (w:World) (b:Nat) (neg:Bool) (A:Option Addr) (n cap S:Nat) (D:List Nat) (L:List UInt8) (v:Value) (wr:World):Prop where
 form:yw_ w b neg A n cap S D wr
 row:wr.ownsRow (b+1) 5 1 v L.length (wu_ L)
theorem kt_.drewN {w wr:World} {b n a S:Nat} {c:Bool} {A:Option Addr} {D:List Nat} {L:List UInt8} {v:Value} (h:kt_ w b c A n a S D L v wr) (m:Nat):kt_ w b c A n a S D L v (wr.drewN m):=
 ⟨h.form.drewN m,h.row⟩
theorem kt_.app {w wr a:World} {b n d S:Nat} {f:Bool} {A:Option Addr} {D:List Nat} {L:List UInt8} {v i:Value} (h:kt_ w b f A n d S D L v wr) (m:np_ w A D) (p:w.heap.size<=b) (g:wr.grownBy a v.ownBlock) {c:UInt8} (o:a.ownsRow (b+1) 5 1 i (L.length+1) (wu_ L++[.int .u8 (c.toNat:Int)])) :
    kt_ w b f A n d S D (L++[c]) i a:=by
 have hb:Below w.heap.size w a:=h.form.below.grown g (by have:=h.form.size;omega) (λk j=>by have:=(h.row.lt k j).1;omega);refine⟨⟨hb,?_,m.under hb,Nat.le_trans h.form.size g.size⟩,?_⟩
 ·exact (g.block b (by have:=h.form.size;omega) (λe=>c8_ h.row h.form.blk (by decide) e.symm)).trans h.form.blk
 ·rw[List.length_append];unfold wu_;rw[List.map_append];exact o
def du_ (D:List Nat) (S:Nat):Bool:=decide (40<l6_ D S-S) || decide (20<S-ns_ D S)
def C8_ (y:Nat):UInt8:=UInt8.ofNat (48+y)
def ef_ (D:List Nat) (hi lo:Nat):List UInt8:=(List.range (hi-lo)).map λj=>C8_ (atD D (hi-1-j))
theorem ga_ (D:List Nat) (hi lo:Nat):(ef_ D hi lo).length=hi-lo:=by unfold ef_;simp
theorem zx_ (D:List Nat) (hi:Nat):ef_ D hi hi=[]:=by unfold ef_;simp
theorem C9_ {y:Nat} (h:y<=9):(C8_ y).toNat=48+y:=by unfold C8_;rw[UInt8.toNat_ofNat'];exact Nat.mod_eq_of_lt (by omega)
def nt_ (a:Bool) (D:List Nat) (S:Nat):ByteArray:=
 ⟨(cond (a && !l4_ D) [45] []++ef_ D (l6_ D S) S++[46]++ef_ D S (ns_ D S)++cond (decide (ns_ D S=S)) [48] []:List UInt8).toArray⟩
theorem zy_ {l:List UInt8} (h:∀c∈l,c=46\/g1_ c.toNat=true):∀x∈d0_ l,x<=9:=by
 induction l with
 | nil=>intro x a;cases a
 | cons c l b=>
  intro x a;unfold d0_ at a;rcases List.mem_append.1 a with a | a
  ·exact b (λd f=>h d (List.mem_cons_of_mem _ f)) x a
  ·cases hc:c==46 with
   | true=>rw[hc]at a;cases a
   | false=>
    rw[hc]at a;have a:x∈[c.toNat-48]:=a;rw[List.mem_singleton]at a;rcases h c List.mem_cons_self with e | e
    ·rw[e]at hc;cases hc
    ·unfold g1_ at e;have:=of_decide_eq_true e;omega
theorem wv_ {s:ByteArray} {a:Bool} {D:List Nat} {S:Nat} (h:is_ s=some (a,D,S)):(∀i,atD D i<=9)/\D.length<=s.size/\S<=s.size:=by
 unfold is_ at h
 cases hp:cx_ (cp_ s).data.toList 0 none with
 | none=>rw[hp]at h;cases h
 | some p=>
  rw[hp]at h;simp only at h
  cases hc:(decide ((cp_ s).size=0) || p==some 0 || p==some ((cp_ s).size-1)) with
  | true=>rw[hc]at h;cases h
  | false=>
   rw[hc]at h;have h:some (di_ s,d0_ (cp_ s).data.toList,nr_ (cp_ s).size p)=some (a,D,S):=h;injection h with h;injection h with _ h;injection h with hD hS;have b:=t1_ s;refine⟨λi=>?_,?_,?_⟩
   ·unfold atD
    cases hi:D[i]? with
    | none=>simp
    | some x=>exact zy_ (Ki_ hp) x (by rw[hD];exact List.mem_of_getElem? hi)
   ·have:=t2_ (cp_ s).data.toList;rw[hD,a1_]at this;omega
   ·rw[<-hS]
    cases p with
    | none=>exact Nat.zero_le _
    | some i=>show (cp_ s).size-1-i<=s.size;omega
def et_ (s:ByteArray):ByteArray×Int:=
 match is_ s with
 | none=>(⟨#[]⟩,6)
 | some (neg,D,S)=>(cond (du_ D S) ⟨#[]⟩ (nt_ neg D S),cond (du_ D S) 2 0)
def cr_ (s:ByteArray):Bool:=decide ((et_ s).2=0)&&decide ((et_ s).1=s)
end
section
open Go Go.RowKit Go.Shelf Go.Lib
def ten:List UInt8:=[48,49,50,51,52,53,54,55,56,57]
theorem Hs_ (s:ByteArray) (w:World) (b:s.size<=9223372036854775807) :
    Calls Tryz.prog 324 #[.string s,.string ⟨#[48,49,50,51,52,53,54,55,56,57]⟩] w λe w'=>e = .returned (.string ⟨(Lib.trimS s.data.toList ten).toArray⟩)/\Below w.heap.size w w':=by
 have a:=Any.strings_Trim_laid Tryz.lays160 (by kernel_rfl) s ⟨#[48,49,50,51,52,53,54,55,56,57]⟩ w b (by decide) (ascii_of_all (by decide));exact a
theorem zz_ (s:ByteArray) (w:World) (b:s.size<=9223372036854775807) :
    Calls Tryz.prog 326 #[.string s,.string ⟨#[48]⟩] w λe w'=>e = .returned (.string ⟨(Lib.trimRightS s.data.toList [48]).toArray⟩)/\Below w.heap.size w w':=by
 have a:=Any.strings_TrimRight_laid Tryz.lays162 (by kernel_rfl) s ⟨#[48]⟩ w b (by decide) (ascii_of_all (by decide));exact a
theorem z0_ (s:ByteArray) (w:World) :
    Calls Tryz.prog 327 #[.string s,.string ⟨#[48]⟩] w λe w'=>e = .returned (.string ⟨(Lib.trimLeftS s.data.toList [48]).toArray⟩)/\Below w.heap.size w w':=by
 have a:=Any.strings_TrimLeft_laid Tryz.lays161 (by kernel_rfl) s ⟨#[48]⟩ w (by decide) (ascii_of_all (by decide));exact a
def z1_ (s:ByteArray):Bool:=!s.toList.isEmpty&&((⟨(Lib.trimS s.data.toList ten).toArray⟩:ByteArray)).toList.isEmpty
theorem l7_ (s:ByteArray) (w:World) (g:s.size<=9223372036854775807):Calls Tryz.prog 296 #[.string s] w (u_ (z1_ s) w):=by
 have ht:=Hs_ s w g;obtain⟨r,a⟩:=a_ (⟨(Lib.trimS s.data.toList ten).toArray⟩:ByteArray);have b:=q_ (show z1_ s=(!s.toList.isEmpty&&r.toList.isEmpty) from by unfold z1_;rw[a.o]);rw[a.o]at ht;have c:=q_ ht;clear ht;go_enter Tryz.func296,Tryz.ntmps296
 by_cases h0:s.toList=[]
 ·have f:=q_ (show false=z1_ s from by rw[b.o,h0];rfl);go_wp2_with fail;go_ret;exact⟨ar_ f.o,Below.refl _ _⟩
 ·go_wp2_with (go_at_call 324;refine c.o.mono ?_;rintro e w' ⟨rfl,d⟩)
  go_ret;exact⟨ar_ b.o.symm,d⟩
theorem nu_ (s p:ByteArray) (w:World):Calls Tryz.prog 294 #[.string s,.string p] w λe w'=>e = .returned (.bool (Lib.hasPrefix s.data.toList p.data.toList))/\w'=w:=
 Any.strings_HasPrefix Tryz.lays99 s p w
theorem yx_ (s p:ByteArray) (m:Int) (w:World) (b:s.size<4294967281) (a:w.cell? ⟨Tryz.lays145_ren.g 1,0,none⟩=some (.int .i64 m)) :
    Calls Tryz.prog 295 #[.string s,.string p] w λe w'=>e = .returned (.tuple #[.string ⟨(Lib.cut s.data.toList p.data.toList).1.toArray⟩,.string ⟨(Lib.cut s.data.toList p.data.toList).2.1.toArray⟩,.bool (Lib.cut s.data.toList p.data.toList).2.2])/\∃n,w'=w.drewN n:=
 Any.strings_Cut Tryz.lays145 s p m w b a
theorem Kj_:Builder.Extra Tryz.prog Tryz.lays105_ren where
 sizeBuilder:=by kernel_rfl
 liesBuilder:=by kernel_rfl
 t5:=by kernel_rfl
 a5:=λ_=>by kernel_rfl
 z5:=λ_=>by kernel_rfl
 v5:=λ_=>by kernel_rfl
 infoByte:=by kernel_rfl
 cellsByte:=by kernel_rfl
 sizeByte:=by kernel_rfl
 neB5:=by decide
theorem nv_ (s:ByteArray) (c:Nat) (w:World) (b:c<=9223372036854775807) (a:s.size*c<=140737488355328) :
    Calls Tryz.prog 325 #[.string s,.int .i64 (c:Int)] w λe w'=>e = .returned (.string ⟨(Lib.repeatL s.data.toList c).toArray⟩)/\Below w.heap.size w w':=
 Any.strings_Repeat Tryz.lays105 Kj_ s c w b a
end
section
open Go Go.RowKit
def it_ (d:List UInt8) (a:Nat):List UInt8:=if d.length<=a then List.replicate (a+1-d.length) 48++d else d
def d8_ (d:List UInt8) (a:Nat):List UInt8:=Lib.trimLeftS ((it_ d a).take ((it_ d a).length-a)) [48]
def gv_ (d:List UInt8) (a:Nat):List UInt8:=Lib.trimRightS ((it_ d a).drop ((it_ d a).length-a)) [48]
def co_ (b:Bool) (d:List UInt8) (a:Nat):List UInt8×Int:=
 if 40<(d8_ d a).length\/20<(gv_ d a).length then ([],2)
 else if d8_ d a=[]/\gv_ d a=[] then ([48,46,48],0)
 else ((if b=true then [45] else [])++(if d8_ d a=[] then [48] else d8_ d a)++[46]++(if gv_ d a=[] then [48] else gv_ d a),0)
def eh_ (c:UInt8):Nat:=c.toNat-48
def a8_ (c:UInt8):Bool:=g1_ c.toNat
theorem cs_ {c:UInt8}:a8_ c=true↔48<=c.toNat/\c.toNat<=57:=by unfold a8_ g1_;exact decide_eq_true_iff
theorem t3_ {c:UInt8} (h:a8_ c=true):C8_ (eh_ c)=c:=by
 have:=cs_.1 h;unfold C8_ eh_;apply UInt8.toNat_inj.1;rw[UInt8.toNat_ofNat'];have:48+(c.toNat-48)=c.toNat:=by omega
 rw[this];exact Nat.mod_eq_of_lt (by omega)
theorem ku_ {c:UInt8} (h:a8_ c=true):eh_ c=0↔c=48:=by
 have:=cs_.1 h;unfold eh_;constructor
 ·intro e;exact UInt8.toNat_inj.1 (by show c.toNat=48;omega)
 ·intro e;subst e;rfl
theorem sb_ (c:UInt8):ten.contains c=a8_ c:=by
 have h:∀n:Fin 256,ten.contains (UInt8.ofNat n.val)=g1_ n.val:=by decide +kernel
 have h2:=h ⟨c.toNat,c.toNat_lt⟩;have e:UInt8.ofNat c.toNat=c:=UInt8.ofNat_toNat;rw[show (⟨c.toNat,c.toNat_lt⟩:Fin 256).val=c.toNat from rfl,e]at h2;exact h2
def ei_ (l:List UInt8):Bool:=!l.isEmpty&&l.all a8_
theorem b6_ {a : Type} (p:a -> Bool) (l:List a):l.dropWhile p=[]↔l.all p=true:=by
 induction l with
 | nil=>simp
 | cons c l b=>
  rw[List.dropWhile_cons]
  cases h:p c
  ·simp[h]
  ·simp[h,b]
theorem z2_ (l cs:List UInt8):Lib.trimS l cs=[]↔l.all (cs.contains ·)=true:=by
 unfold Lib.trimS Lib.trimLeftS Lib.trimRightS;rw[b6_,List.all_reverse];constructor
 ·intro h
  have h2:l.reverse.dropWhile (cs.contains ·)=[]:=by
   cases hd:l.reverse.dropWhile (cs.contains ·) with
   | nil=>rfl
   | cons c r=>
    have:=List.head_dropWhile_not (cs.contains ·) (l:=l.reverse) (by rw[hd];simp);rw[hd]at h;have a:cs.contains c=true:=by simp only[List.all_cons,Bool.and_eq_true]at h;exact h.1
    simp only[hd,List.head_cons]at this;rw[a]at this;cases this
  have:=(b6_ _ _).1 h2;rwa [List.all_reverse]at this
 ·intro h;have:l.reverse.dropWhile (cs.contains ·)=[]:=(b6_ _ _).2 (by rw[List.all_reverse];exact h);rw[this];rfl
theorem z3_ (l:List UInt8):(⟨l.toArray⟩:ByteArray).data.toList=l:=rfl
theorem gw_ (s:ByteArray):s.toList.isEmpty=s.data.toList.isEmpty:=by rw[show s.toList=s.data.toList from Lib.toList_data s]
theorem yy_ (s:ByteArray):z1_ s=ei_ s.data.toList:=by
 unfold z1_ ei_;rw[gw_,gw_,z3_];congr 1
 have h:=z2_ s.data.toList ten;have e:(s.data.toList.all (ten.contains ·))=s.data.toList.all a8_:=by congr 1;funext c;exact sb_ c
 rw[e]at h
 cases hb:s.data.toList.all a8_
 ·rw[hb]at h
  cases ht:Lib.trimS s.data.toList ten
  ·exact absurd (h.1 ht) (by simp)
  ·rfl
 ·rw[hb]at h;rw[h.2 rfl];rfl
theorem Da_ {l:List UInt8} (h:46∉l):Lib.index l [46] = -1:=by
 induction l with
 | nil=>rfl
 | cons c l b=>
  unfold Lib.index;have a:(46:UInt8)≠c:=λe=>h (by rw[e];exact List.mem_cons_self);have d:[46].isPrefixOf (c::l)=false:=by simp[List.isPrefixOf,a]
  rw[d,b (λe=>h (List.mem_cons_of_mem _ e))];rfl
theorem z4_ {a b:List UInt8} (h:46∉a):Lib.index (a++46::b) [46]=a.length:=by
 induction a with
 | nil=>show Lib.index (46::b) [46]=_;unfold Lib.index;simp[List.isPrefixOf]
 | cons c a f=>
  show Lib.index (c::(a++46::b)) [46]=_;unfold Lib.index;have d:(46:UInt8)≠c:=λe=>h (by rw[e];exact List.mem_cons_self);have g:[46].isPrefixOf (c::(a++46::b))=false:=by simp[List.isPrefixOf,d]
  rw[g,f (λe=>h (List.mem_cons_of_mem _ e))];have:((a.length:Int) == -1)=false:=by rw[beq_eq_false_iff_ne];omega
  rw[this];simp
theorem Db_ {l:List UInt8} (h:46∉l):Lib.cut l [46]=(l,[],false):=by unfold Lib.cut;rw[Da_ h];rfl
theorem sc_ {a b:List UInt8} (h:46∉a):Lib.cut (a++46::b) [46]=(a,b,true):=by unfold Lib.cut;rw[z4_ h,if_pos (by omega)];simp
theorem qt_ (l:List UInt8):46∉l\/∃a b,l=a++46::b/\46∉a:=by
 induction l with
 | nil=>exact .inl (by simp)
 | cons c l f=>
  by_cases d:c=46
  ·exact .inr ⟨[],l,by rw[d];rfl,by simp⟩
  ·rcases f with h | ⟨a,b,h,g⟩
   ·exact .inl (λe=>by rcases List.mem_cons.1 e with e | e;exact d e.symm;exact h e)
   ·exact .inr ⟨c::a,b,by rw[h];rfl,λe=>by rcases List.mem_cons.1 e with e | e;exact d e.symm;exact g e⟩
theorem t4_ (l:List UInt8):∀(i j:Nat),cx_ l i (some j)=cond (l.all a8_) (some (some j)) none:=by
 induction l with
 | nil=>intro i j;rfl
 | cons c l a=>
  intro i j;unfold cx_;rw[show (c==46&&(some j).isNone)=false by simp];simp only[a];show cond false _ (cond (a8_ c) _ _)=_;rw[List.all_cons]
  cases a8_ c<;>rfl
theorem z5_ (l:List UInt8) (h:46∉l):∀(i:Nat),cx_ l i none=cond (l.all a8_) (some none) none:=by
 induction l with
 | nil=>intro i;rfl
 | cons c l a=>
  intro i;unfold cx_;have b:(c==46)=false:=beq_eq_false_iff_ne.2 (λe=>h (by rw[e];exact List.mem_cons_self));rw[b,a (λe=>h (List.mem_cons_of_mem _ e))];show cond (a8_ c) _ _=_;rw[List.all_cons]
  cases a8_ c<;>rfl
theorem nw_ (a b:List UInt8) (h:46∉a):∀(i:Nat),cx_ (a++46::b) i none=cond (a.all a8_&&b.all a8_) (some (some (i+a.length))) none:=by
 induction a with
 | nil=>
  intro i;show cx_ (46::b) i none=_;unfold cx_;rw[show ((46:UInt8)==46&&(none:Option Nat).isNone)=true by rfl];rw[t4_];rfl
 | cons c a d=>
  intro i;show cx_ (c::(a++46::b)) i none=_;unfold cx_;have f:(c==46)=false:=beq_eq_false_iff_ne.2 (λe=>h (by rw[e];exact List.mem_cons_self));rw[f,d (λe=>h (List.mem_cons_of_mem _ e))];show cond (a8_ c) _ _=_;rw[List.all_cons,show i+1+a.length=i+(c::a).length by simp;omega]
  cases a8_ c<;>rfl
theorem sd_ {l:List UInt8} (h:46∉l):d0_ l=(l.map eh_).reverse:=by
 induction l with
 | nil=>rfl
 | cons c l a=>
  unfold d0_;have b:(c==46)=false:=beq_eq_false_iff_ne.2 (λe=>h (by rw[e];exact List.mem_cons_self));rw[b,a (λe=>h (List.mem_cons_of_mem _ e))];simp[eh_]
theorem Dc_ (a b:List UInt8):d0_ (a++b)=d0_ b++d0_ a:=by
 induction a with
 | nil=>simp[d0_]
 | cons c a d=>simp[d0_,d]
theorem z6_ {l:List UInt8} (h:l.all a8_=true):46∉l:=λe=>by
 have:=List.all_eq_true.1 h _ e
 cases this
theorem t5_ {a b:List UInt8} (c:a.all a8_=true) (hb:b.all a8_=true):d0_ (a++46::b)=((a++b).map eh_).reverse:=by rw[Dc_,sd_ (z6_ c)];show (d0_ b++[])++_=_;rw[sd_ (z6_ hb)];simp
def ca_ (d:List UInt8):List Nat:=(d.map eh_).reverse
theorem l8_ (d:List UInt8):(ca_ d).length=d.length:=by simp[ca_]
theorem m9_ (d:List UInt8) {i:Nat} (h:i<d.length):atD (ca_ d) i=eh_ (d[d.length-1-i]'(by omega)):=by unfold atD ca_;rw[List.getElem?_reverse (by simpa using h)];simp only[List.length_map,List.getElem?_map];rw[List.getElem?_eq_getElem (by omega)];rfl
theorem Lp_ (a b:List UInt8) {i:Nat} (h:i<a.length):atD (ca_ (a++b)) (b.length+i)=eh_ (a[a.length-1-i]'(by omega)):=by
 rw[m9_ _ (by simp;omega)];congr 1
 rw[List.getElem_append_left (by simp;omega)];congr 1
 simp;omega
theorem Lq_ (a b:List UInt8) {i:Nat} (h:i<b.length):atD (ca_ (a++b)) i=eh_ (b[b.length-1-i]'(by omega)):=by
 rw[m9_ _ (by simp;omega)];congr 1
 rw[List.getElem_append_right (by simp;omega)];congr 1
 simp;omega
def au_ (c:UInt8):Bool:=[48].contains c
theorem eo_ {c:UInt8}:au_ c=true↔c=48:=by unfold au_;simp
theorem Dd_ (D:List Nat) (S:Nat):∀a:List UInt8,a.all a8_=true->(∀(i:Nat) (h:i<a.length),atD D (S+i)=eh_ (a[a.length-1-i]'(by omega))) ->
    max (l5_ D S (S+a.length)) (S+1)=S+max 1 (a.dropWhile au_).length:=by
 intro a;induction a with
 | nil=>intro _ _;have:=C7_ D S (S+0);simp at this ⊢;omega
 | cons c a g=>
  intro d f;rw[List.all_cons,Bool.and_eq_true]at d;have h0:=f a.length (by simp);have h0:atD D (S+a.length)=eh_ c:=by rw[h0];simp
  rw[show S+(c::a).length=(S+a.length)+1 by simp;omega];unfold l5_;rw[h0,List.dropWhile_cons];have hz:=ku_ d.1;by_cases b:c=48
  ·rw[if_pos (eo_.2 b)]
   cases a with
   | nil=>
    rw[if_neg (by simp)];simp
   | cons e a=>
    rw[if_pos ⟨by simp,hz.2 b⟩];refine g d.2 λi h=>?_;rw[f i (by simp at h ⊢;omega)];congr 1
    rw[List.getElem_cons];rw[dif_neg (by simp at h ⊢;omega)];congr 1
    simp at h ⊢;omega
  ·rw[if_neg (λe=>b (hz.1 e.2)),if_neg (λe=>b (eo_.1 e))];simp;omega
theorem Ht_ (D:List Nat) (S:Nat):∀(r:List UInt8) (k:Nat),r.all a8_=true->k+r.length=S->(∀(i:Nat) (h:i<r.length),atD D (k+i)=eh_ r[i]) ->
    sa_ D S r.length k=S-(r.dropWhile au_).length:=by
 intro r;induction r with
 | nil=>intro k _ b _;simp[sa_]at b ⊢;omega
 | cons c r g=>
  intro k d b f;rw[List.all_cons,Bool.and_eq_true]at d;have h0:atD D k=eh_ c:=f 0 (by simp);have hz:=ku_ d.1;show sa_ D S (r.length+1) k=_;unfold sa_;rw[h0,List.dropWhile_cons];simp only[List.length_cons]at b;by_cases a:c=48
  ·rw[if_pos (eo_.2 a),if_pos ⟨by omega,hz.2 a⟩];refine g (k+1) d.2 (by omega) λi h=>?_;have:=f (i+1) (by simp;omega);rw[show k+(i+1)=k+1+i by omega]at this;rw[this];rfl
  ·rw[if_neg (λe=>a (hz.1 e.2)),if_neg (λe=>a (eo_.1 e))];simp;omega
theorem t6_ (D:List Nat) (lo:Nat):∀a:List UInt8,a.all a8_=true->(∀(i:Nat) (h:i<a.length),atD D (lo+i)=eh_ (a[a.length-1-i]'(by omega)))->ef_ D (lo+a.length) lo=a:=by
 intro a b c;unfold ef_;rw[show lo+a.length-lo=a.length by omega];refine List.ext_getElem (by simp) λi h1 h2=>?_;simp only[List.getElem_map,List.getElem_range];rw[show lo+a.length-1-i=lo+(a.length-1-i) by omega,c _ (by omega)];have e:a[a.length-1-(a.length-1-i)]'(by omega)=a[i]:=by congr 1;omega
 rw[e];exact t3_ (List.all_eq_true.1 b _ (List.getElem_mem h2))
theorem ff_ (p:UInt8->Bool) (a:List UInt8):a.dropWhile p=a.drop (a.length-(a.dropWhile p).length):=by
 induction a with
 | nil=>rfl
 | cons c a b=>
  rw[List.dropWhile_cons];by_cases h:p c=true
  ·rw[if_pos h];have:(a.dropWhile p).length<=a.length:=by rw[b];simp
   rw[show (c::a).length-(a.dropWhile p).length=(a.length-(a.dropWhile p).length)+1 by simp;omega];exact b
  ·rw[if_neg h];simp
theorem De_ {a:List UInt8} (b:a.all a8_=true):a.all au_=(a.map eh_).all (· == 0):=by
 induction a with
 | nil=>rfl
 | cons c a d=>
  rw[List.all_cons,Bool.and_eq_true]at b;rw[List.map_cons,List.all_cons,List.all_cons,d b.2];congr 1
  have hz:=ku_ b.1;rw[Bool.eq_iff_iff,eo_,beq_iff_eq];exact hz.symm
theorem qu_ (g:Bool) (a b:List UInt8) (z:ei_ a=true) (hb:b.all a8_=true) :
    ((⟨(co_ g (a++b) b.length).1.toArray⟩:ByteArray),(co_ g (a++b) b.length).2)=(cond (du_ (ca_ (a++b)) b.length) ⟨#[]⟩ (nt_ g (ca_ (a++b)) b.length),cond (du_ (ca_ (a++b)) b.length) 2 0):=by
 obtain⟨p,k⟩:a≠[]/\a.all a8_=true:=by unfold ei_ at z;rw[Bool.and_eq_true]at z;exact⟨by rintro rfl;simp at z,z.2⟩
 have O:0<a.length:=List.length_pos_iff.2 p;have q:it_ (a++b) b.length=a++b:=by unfold it_;rw[if_neg (by simp;omega)]
 have s:(a++b).length-b.length=a.length:=by simp
 have P:d8_ (a++b) b.length=a.dropWhile au_:=by unfold d8_;rw[q,s];simp only[List.take_left'];rfl
 have T:gv_ (a++b) b.length=(b.reverse.dropWhile au_).reverse:=by unfold gv_;rw[q,s];simp only[List.drop_left'];rfl
 have N:∀(i:Nat) (h:i<a.length),atD (ca_ (a++b)) (b.length+i)=eh_ (a[a.length-1-i]'(by omega)):=λi h=>Lp_ a b h;have L:∀(i:Nat) (h:i<b.length),atD (ca_ (a++b)) i=eh_ (b[b.length-1-i]'(by omega)):=λi h=>Lq_ a b h;have j:l6_ (ca_ (a++b)) b.length=b.length+max 1 (a.dropWhile au_).length:=by unfold l6_;rw[l8_,show (a++b).length=b.length+a.length by simp;omega];exact Dd_ _ _ a k N
 have r:ns_ (ca_ (a++b)) b.length=b.length-(b.reverse.dropWhile au_).length:=by
  unfold ns_
  have:=Ht_ (ca_ (a++b)) b.length b.reverse 0 (by rw[List.all_reverse];exact hb) (by simp) (λi h=>by
   rw[Nat.zero_add,L i (by simpa using h)];congr 1
   rw[List.getElem_reverse])
  simpa using this
 have V:(b.reverse.dropWhile au_).length<=b.length:=by rw[ff_];simp
 have U:(a.dropWhile au_).length<=a.length:=by rw[ff_];simp
 have E:du_ (ca_ (a++b)) b.length=decide (40<(a.dropWhile au_).length\/20<(b.reverse.dropWhile au_).length):=by unfold du_;rw[j,r,Bool.eq_iff_iff,Bool.or_eq_true,decide_eq_true_iff,decide_eq_true_iff,decide_eq_true_iff];omega
 have y:l4_ (ca_ (a++b))=(decide (a.dropWhile au_=[])&&decide (b.reverse.dropWhile au_=[])):=by unfold l4_ ca_;rw[List.all_reverse,<-De_ (by rw[List.all_append,k,hb];rfl),List.all_append,Bool.eq_iff_iff,Bool.and_eq_true,Bool.and_eq_true,decide_eq_true_iff,decide_eq_true_iff,b6_,b6_,List.all_reverse]
 have x:ef_ (ca_ (a++b)) (b.length+max 1 (a.dropWhile au_).length) b.length=if a.dropWhile au_=[] then [48] else a.dropWhile au_:=by
  have key:∀c:List UInt8,(∃e,a=e++c)->ef_ (ca_ (a++b)) (b.length+c.length) b.length=c:=λc D=>by
   obtain⟨e,m⟩:=D;refine t6_ _ _ c ?_ λi h=>?_
   ·rw[m,List.all_append,Bool.and_eq_true]at k;exact k.2
   ·rw[N i (by rw[m];simp;omega)];congr 1
    subst m;rw[List.getElem_append_right (by simp;omega)];congr 1
    simp;omega
  by_cases t:a.dropWhile au_=[]
  ·rw[if_pos t,t];have J:=(b6_ _ _).1 t;obtain⟨e,c,m⟩:∃e c,a=e++[c]:=⟨a.dropLast,a.getLast p,(List.dropLast_concat_getLast p).symm⟩;have D:c=48:=eo_.1 (List.all_eq_true.1 J c (by rw[m];simp));have:=key [c] ⟨e,m⟩;rw[D]at this;exact this
  ·rw[if_neg t];have S:=List.length_pos_iff.2 t;rw[show max 1 (a.dropWhile au_).length=(a.dropWhile au_).length by omega];exact key _ ⟨a.takeWhile au_,List.takeWhile_append_dropWhile.symm⟩
 have o:ef_ (ca_ (a++b)) b.length (b.length-(b.reverse.dropWhile au_).length)=(b.reverse.dropWhile au_).reverse:=by
  obtain⟨c,e,B,C⟩:∃c e,b=c++e/\c=(b.reverse.dropWhile au_).reverse:=⟨(b.reverse.dropWhile au_).reverse,(b.reverse.takeWhile au_).reverse,by rw[<-List.reverse_append,List.takeWhile_append_dropWhile,List.reverse_reverse],rfl⟩;have I:(b.reverse.dropWhile au_).length=c.length:=by rw[C];simp
  rw[<-C,I];have R:b.length=c.length+e.length:=by rw[B];simp
  have:=t6_ (ca_ (a++b)) (b.length-c.length) c (by rw[B,List.all_append,Bool.and_eq_true]at hb;exact hb.1) (λi h=>by
   rw[L _ (by omega)];congr 1
   have:b[b.length-1-(b.length-c.length+i)]'(by omega)=(c++e)[b.length-1-(b.length-c.length+i)]'(by simp;omega):=by congr 1
   rw[this,List.getElem_append_left (by omega)];congr 1
   omega)
  rwa [show b.length-c.length+c.length=b.length by omega]at this
 rw[E];unfold co_;rw[P,T];simp only[List.length_reverse,List.reverse_eq_nil_iff];by_cases h1:40<(a.dropWhile au_).length\/20<(b.reverse.dropWhile au_).length
 ·rw[if_pos h1,decide_eq_true h1];rfl
 ·rw[if_neg h1,decide_eq_false h1];unfold nt_;rw[y,j,r,x,o]
  have M:decide (b.length-(b.reverse.dropWhile au_).length=b.length)=decide (b.reverse.dropWhile au_=[]):=by
   rw[decide_eq_decide];constructor
   ·intro h;by_cases G:b.length=0
    ·have:b=[]:=List.eq_nil_of_length_eq_zero G;subst this;rfl
    ·exact List.eq_nil_of_length_eq_zero (by omega)
   ·intro h;rw[h];rfl
  rw[M];by_cases d:a.dropWhile au_=[]<;>by_cases f:b.reverse.dropWhile au_=[]
  ·rw[if_pos ⟨d,f⟩];simp[d,f]
  ·rw[if_neg (λh=>f h.2)]
   cases g<;>simp[d,f]
  ·rw[if_neg (λh=>d h.1)]
   cases g<;>simp[d,f]
  ·rw[if_neg (λh=>d h.1)]
   cases g<;>simp[d,f]
def il_ (s:ByteArray):List UInt8×Int:=
 let c:=Lib.cut (cp_ s).data.toList [46]
 if ei_ c.1=true/\(c.2.2=true->ei_ c.2.1=true) then co_ (di_ s) (c.1++c.2.1) c.2.1.length else ([],6)
theorem qv_ (s:ByteArray):((⟨(il_ s).1.toArray⟩:ByteArray),(il_ s).2)=et_ s:=by
 unfold il_ et_ is_;have o:=a1_ (cp_ s);generalize hl:(cp_ s).data.toList=l at o;rw[<-o];simp only;rcases qt_ l with h | ⟨a,b,h,p⟩
 ·rw[Db_ h,z5_ l h]
  cases c:l.all a8_
  ·rw[if_neg (by intro e;have:=e.1;unfold ei_ at this;rw[c]at this;simp at this)];rfl
  ·simp only[cond_true];by_cases h0:l=[]
   ·subst h0;rfl
   ·have q:ei_ l=true:=by unfold ei_;rw[c];cases l<;>simp_all
    rw[if_pos ⟨q,λe=>by cases e⟩];have t:=List.length_pos_iff.2 h0;rw[show (decide (l.length=0) || (none:Option Nat)==some 0 || (none:Option Nat)==some (l.length-1))=false by rw[decide_eq_false (by omega)];rfl];have:=qu_ (di_ s) l [] q rfl;rw[sd_ (z6_ c)];simp only[List.append_nil,List.length_nil]at this ⊢;exact this
 ·rw[h,sc_ p,nw_ a b p];by_cases c:(a.all a8_&&b.all a8_)=true
  ·obtain⟨j,f⟩:=Bool.and_eq_true_iff.1 c;rw[j,f];simp only[Bool.and_self,cond_true,Nat.zero_add];have i:(decide ((a++46::b).length=0) || (some a.length==some 0) || (some a.length==some ((a++46::b).length-1)))=(decide (a=[]) || decide (b=[])):=by rw[Bool.eq_iff_iff];simp only[Bool.or_eq_true,decide_eq_true_iff,List.length_append,List.length_cons,beq_iff_eq,Option.some.injEq,<-List.length_eq_zero_iff];omega
   rw[i];by_cases g:a=[]
   ·rw[if_neg (by rintro⟨e,_⟩;subst g;cases e)];rw[decide_eq_true g];rfl
   ·by_cases k:b=[]
    ·rw[if_neg (by rintro⟨_,e⟩;subst k;exact absurd (e trivial) (by decide))];simp[k]
    ·have m:ei_ a=true:=by unfold ei_;rw[j];cases a<;>simp_all
     have r:ei_ b=true:=by unfold ei_;rw[f];cases b<;>simp_all
     rw[if_pos ⟨m,λ_=>r⟩,decide_eq_false g,decide_eq_false k];simp only[Bool.or_self,cond_false];rw[t5_ j f];have d:nr_ (a++46::b).length (some a.length)=b.length:=by unfold nr_;simp
     rw[d];exact qu_ (di_ s) a b m f
  ·have c:(a.all a8_&&b.all a8_)=false:=by simpa using c
   rw[c];simp only[cond_false];rw[if_neg];rintro⟨i,d⟩;have d:=d trivial;unfold ei_ at i d;rw[Bool.and_eq_true]at i d;rw[i.2,d.2]at c
   cases c
end
end Go.Proofs.YtefhfadjajcmkaaGreatDoor
