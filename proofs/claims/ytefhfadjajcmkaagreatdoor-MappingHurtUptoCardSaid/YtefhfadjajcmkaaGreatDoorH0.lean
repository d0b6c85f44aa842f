/- The program reads of a text what the reference reads of it (plain). -/
import Derived.Test.YtefhfadjajcmkaaGreatDoorHzz
import Derived.Test.YtefhfadjajcmkaaGreatDoorR0
import Derived.Test.YtefhfadjajcmkaaGreatDoorProg
import Derived.WalkKit
import Derived.WalkSpells
import Derived.Lib.Hide
import Derived.Deep.QuietTactic
import Derived.BigQuiet
import Derived.IntWalk
import Derived.Outline
import Derived.StillTailTactics
import Derived.Deep.DeepCutAuto
import Derived.Test.YtefhfadjajcmkaaGreatDoorL0
import Derived.WalkLawsBesides
import Derived.OwnWalk
import Derived.Deep.AppendLies
import Derived.Maps.OwnSet
import Derived.Laws.IdiomStrings
import Derived.Lib.BufferRead
import Derived.Deep.RegionLaw
import Derived.Test.YtefhfadjajcmkaaGreatDoorShelf
set_option linter.unusedVariables false
set_option linter.unusedSimpArgs false
set_option maxRecDepth 100000
set_option maxHeartbeats 64000000
namespace Go.Proofs.YtefhfadjajcmkaaGreatDoor
open Go.Lib (cell_of_heap)
section
open Go Go.RowKit
inductive h_ where
 | mk (kind:Int) (truth:Bool) (num:Int) (text extra:ByteArray) (list:List h_):h_
namespace h_
def kind:h_->Int | mk k _ _ _ _ _=>k
def truth:h_->Bool | mk _ b _ _ _ _=>b
def num:h_->Int | mk _ _ n _ _ _=>n
def text:h_->ByteArray | mk _ _ _ t _ _=>t
def extra:h_->ByteArray | mk _ _ _ _ x _=>x
def list:h_->List h_ | mk _ _ _ _ _ l=>l
end h_
mutual
def U_:h_->Nat
 | .mk _ _ _ t x l=>1+t.size / 64+x.size / 64+af_ l
def af_:List h_->Nat
 | []=>0
 | v::r=>U_ v+af_ r
end
theorem fj_ (v:h_):af_ v.list<U_ v:=by cases v;simp only[U_,h_.list];omega
theorem fc_ {l:List h_} {v:h_} (h:v∈l):U_ v<=af_ l:=by
 induction l with
 | nil=>cases h
 | cons a r b=>
  simp only[af_];rcases List.mem_cons.1 h with rfl | h
  ·omega
  ·have:=b h;omega
theorem kg_ (a b:List h_):af_ (a++b)=af_ a+af_ b:=by
 induction a with
 | nil=>simp[af_]
 | cons v r c=>simp only[List.cons_append,af_,c];omega
theorem wp_ (l:List h_) (k:Nat):af_ (l.take k)<=af_ l:=by have:=kg_ (l.take k) (l.drop k);rw[List.take_append_drop]at this;omega
def c_ (v:h_) (s:Value):Array Value:=#[.int .i64 v.kind,.bool v.truth,.int .i64 v.num,.string v.text,.string v.extra,s]
inductive VRd (w:World) (F:Nat->Prop):h_->Value->Prop where
 | mk (v:h_) (A:Option Addr) (cap:Nat) (ad:Addr) (cs:Nat->Array Value) (hcap:v.list.length<=cap) (hA:0<v.list.length->A=some ad/\F ad.block)
     (hc:∀i,i<v.list.length->(cs i).size=6/\∀j,j<6->w.cell? (ad.add (i*6+j))=(cs i)[j]?)
     (hr:∀i x,v.list[i]?=some x->VRd w F x (.agg (cs i))):VRd w F v (.agg (c_ v (.slice A v.list.length cap)))
def LRd (w:World) (F:Nat->Prop) (l:List h_) (A:Option Addr) (n:Nat):Prop:=
 n=l.length/\(0<n->∃ad,A=some ad/\F ad.block/\∀i x,l[i]?=some x->∃c:Array Value,c.size=6/\(∀j,j<6->w.cell? (ad.add (i*6+j))=c[j]?)/\VRd w F x (.agg c))
section
variable {w w':World} {F F':Nat->Prop} {v:h_} {u:Value}
theorem VRd.inv (h:VRd w F v u):∃A a,u = .agg (c_ v (.slice A v.list.length a))/\v.list.length<=a/\LRd w F v.list A v.list.length:=by
 cases h with
 | mk _ A a ad cs c e d g=>
  refine⟨A,a,rfl,c,rfl,λf=>⟨ad,(e f).1,(e f).2,λi x b=>?_⟩⟩
  have hi:i<v.list.length:=by
   rcases Nat.lt_or_ge i v.list.length with h | h
   ·exact h
   ·rw[List.getElem?_eq_none h]at b;cases b
  exact⟨cs i,(d i hi).1,(d i hi).2,g i x b⟩
theorem VRd.of_list {A:Option Addr} {d:Nat} (e:v.list.length<=d) (h:LRd w F v.list A v.list.length):VRd w F v (.agg (c_ v (.slice A v.list.length d))):=by
 by_cases f:0<v.list.length
 ·obtain⟨ad,m,o,k⟩:=h.2 f
  have b:∀i,∃c:Array Value,i<v.list.length->c.size=6/\(∀j,j<6->w.cell? (ad.add (i*6+j))=c[j]?)/\∀x,v.list[i]?=some x->VRd w F x (.agg c):=λi=>by
   by_cases hi:i<v.list.length
   ·obtain⟨c,h1,g,p⟩:=k i _ (List.getElem?_eq_getElem hi)
    exact⟨c,λ_=>⟨h1,g,λx a=>by
     rw[List.getElem?_eq_getElem hi]at a;injection a with a;subst a;exact p⟩⟩
   ·exact⟨#[],λh=>absurd h hi⟩
  refine .mk v A d ad (λi=>(b i).choose) e (λ_=>⟨m,o⟩) (λi hi=>⟨((b i).choose_spec hi).1,((b i).choose_spec hi).2.1⟩) λi x a=>?_
  have hi:i<v.list.length:=by
   rcases Nat.lt_or_ge i v.list.length with h | h
   ·exact h
   ·rw[List.getElem?_eq_none h]at a;cases a
  exact ((b i).choose_spec hi).2.2 x a
 ·exact .mk v A d ⟨0,0,none⟩ (λ_=>#[]) e (λh=>absurd h f) (λi hi=>absurd hi (by omega)) (λi x a=>by
    rw[List.getElem?_eq_none (by omega)]at a;cases a)
theorem VRd.keep (h:VRd w F v u) (g:∀p:Addr,F p.block->w'.cell? p=w.cell? p):VRd w' F v u:=by
 induction h with
 | mk v A d ad cs a c b k f=>
  exact .mk v A d ad cs a c (λi hi=>⟨(b i hi).1,λj e=>(g _ (by rw[block_of_add];exact (c (by omega)).2)).trans ((b i hi).2 j e)⟩) f
theorem VRd.mono (h:VRd w F v u) (f:∀g,F g->F' g):VRd w F' v u:=by
 induction h with
 | mk v A c ad cs a b d i e=>exact .mk v A c ad cs a (λh=>⟨(b h).1,f _ (b h).2⟩) d e
variable {l:List h_} {A:Option Addr} {n:Nat}
theorem LRd.keep (h:LRd w F l A n) (b:∀p:Addr,F p.block->w'.cell? p=w.cell? p):LRd w' F l A n:=
 ⟨h.1,λd=>by
  obtain⟨ad,e,a,m⟩:=h.2 d;refine⟨ad,e,a,λi x g=>?_⟩;obtain⟨c,h1,k,o⟩:=m i x g;exact⟨c,h1,λj f=>(b _ (by rw[block_of_add];exact a)).trans (k j f),o.keep b⟩⟩
theorem LRd.mono (h:LRd w F l A n) (a:∀g,F g->F' g):LRd w F' l A n:=
 ⟨h.1,λk=>by
  obtain⟨ad,e,b,j⟩:=h.2 k;refine⟨ad,e,a _ b,λi x d=>?_⟩;obtain⟨c,h1,f,m⟩:=j i x d;exact⟨c,h1,f,m.mono a⟩⟩
theorem LRd.nil (a:Nat) (b:a=0):LRd w F [] none a:=⟨by simpa using b,λh=>absurd h (by omega)⟩
theorem LRd.drewN (h:LRd w F l A n) (m:Nat):LRd (w.drewN m) F l A n:=h.keep λ_ _=>rfl
theorem VRd.drewN (h:VRd w F v u) (m:Nat):VRd (w.drewN m) F v u:=h.keep λ_ _=>rfl
theorem LRd.under {B:Nat} (h:LRd w F l A n) (hb:Below B w w') (b:∀g,F g->g<B):LRd w' F l A n:=h.keep λ_ a=>hb.cell (b _ a)
theorem VRd.under {B:Nat} (h:VRd w F v u) (hb:Below B w w') (b:∀g,F g->g<B):VRd w' F v u:=h.keep λ_ a=>hb.cell (b _ a)
theorem LRd.at_ (h:LRd w F l A n) {i:Nat} {x:h_} (d:l[i]?=some x):∃ad s,A=some ad/\F ad.block/\(∃B a,s = .slice B x.list.length a/\x.list.length<=a/\LRd w F x.list B x.list.length)/\(∀j,j<6->w.cell? (ad.add (i*6+j))=(c_ x s)[j]?)/\VRd w F x (.agg (c_ x s)):=by
 have hi:i<l.length:=by
  rcases Nat.lt_or_ge i l.length with h | h
  ·exact h
  ·rw[List.getElem?_eq_none h]at d;cases d
 obtain⟨ad,e,p,m⟩:=h.2 (by rw[h.1];omega);obtain⟨c,_,k,g⟩:=m i x d;obtain⟨B,a,b,f,o⟩:=g.inv;injection b with b;subst b;exact⟨ad,_,e,p,⟨B,a,rfl,f,o⟩,k,g⟩
end
theorem a_ {b : Type} (a:b):∃x,Q_ (a=x):=⟨a,q_ rfl⟩
theorem f_ {a : Type} {l:List a} {k:Nat} {y:a} (h:l[k]?=some y):l.take (k+1)=l.take k++[y]:=by rw[List.take_add_one,h];rfl
theorem LRd.cellsAt {w:World} {F:Nat->Prop} {l:List h_} {A:Option Addr} {n:Nat} (h:LRd w F l A n) {i:Nat} {x:h_} (j:l[i]?=some x) :
    ∃ad s,A=some ad/\F ad.block/\(∃B b,s = .slice B x.list.length b/\x.list.length<=b/\LRd w F x.list B x.list.length)/\VRd w F x (.agg (c_ x s)) /\
     w.cell? (ad.add (i*6))=some (.int .i64 x.kind)/\w.cell? ⟨(ad.add (i*6)).block,(ad.add (i*6)).off+1,none⟩=some (.bool x.truth)/\w.cell? ⟨(ad.add (i*6)).block,(ad.add (i*6)).off+2,none⟩=some (.int .i64 x.num) /\
     w.cell? ⟨(ad.add (i*6)).block,(ad.add (i*6)).off+3,none⟩=some (.string x.text)/\w.cell? ⟨(ad.add (i*6)).block,(ad.add (i*6)).off+4,none⟩=some (.string x.extra)/\w.cell? ⟨(ad.add (i*6)).block,(ad.add (i*6)).off+5,none⟩=some s:=by
 obtain⟨ad,s,e,o,k,a,m⟩:=h.at_ j;have p:=a 0 (by omega);have d:=a 1 (by omega);have f:=a 2 (by omega);have g:=a 3 (by omega);have c4:=a 4 (by omega);have c:=a 5 (by omega);rw[<-add_of_add]at d f g c4 c;exact⟨ad,s,e,o,k,m,p,d,f,g,c4,c⟩
theorem dd_ (l:List h_):l.length<=af_ l:=by
 induction l with
 | nil=>simp
 | cons v r a=>
  simp only[af_,List.length_cons];have:1<=U_ v:=by cases v;simp only[U_];omega
  omega
open Classical in
noncomputable def c0_ (a b:h_):Bool:=decide (a=b)
open Classical in
noncomputable def h9_ (a b:List h_):Bool:=decide (a=b)
theorem nz_ (a:h_):c0_ a a=true:=by unfold c0_;simp
theorem cb_ {a b:h_} (h:a≠b):c0_ a b=false:=by unfold c0_;simp[h]
theorem ty_ {a b:List h_} (h:a≠b):h9_ a b=false:=by unfold h9_;simp[h]
theorem wq_ (a:List h_):h9_ a a=true:=by unfold h9_;simp
theorem by_ {a b:ByteArray} (h:a≠b):(a.toList==b.toList)=false:=by rw[ByteArray.toList_eq,ByteArray.toList_eq];exact beq_eq_false_iff_ne.2 λe=>h (ByteArray.ext (Array.toList_inj.1 e))
def z_ (b:Bool) (w:World) (e:Ending) (w':World):Prop:=e = .returned (.bool b)/\Below w.heap.size w w'
theorem B_ {a b:Bool} {w w':World} (h:a=b) (hb:Below w.heap.size w w'):z_ b w (.returned (.bool a)) w':=⟨by rw[h],hb⟩
theorem D_ (w:World) (a b:Obj):Below w.heap.size w ((w.alloc a).alloc b):=(((Below.refl _ _).alloc (Nat.le_refl _) _).alloc (by simp) _)
theorem qq_ (a b:h_) {F G:Nat->Prop} (A B:Option Addr) (ca cb:Nat) (w:World) (V:∀g,F g->g<w.heap.size) (S:∀g,G g->g<w.heap.size)
    (U:LRd w F a.list A a.list.length) (P:LRd w G b.list B b.list.length)
    (y:∀w',LRd w' F a.list A a.list.length->LRd w' G b.list B b.list.length->(∀g,F g->g<w'.heap.size)->(∀g,G g->g<w'.heap.size)->Calls Tryz.prog 64 #[.slice A a.list.length ca,.slice B b.list.length cb] w' (z_ (h9_ a.list b.list) w')) :
    Calls Tryz.prog 22 #[.agg (c_ a (.slice A a.list.length ca)),.agg (c_ b (.slice B b.list.length cb))] w (z_ (c0_ a b) w):=by
 have h:=q_ y;have z:=q_ U;have C:=q_ P;have T:=q_ V;have R:=q_ S;clear y U P V S;obtain⟨k,t,n,s,x,l⟩:=a;obtain⟨I,D,m,r,j,i⟩:=b;unfold c_;simp only[h_.kind,h_.truth,h_.num,h_.text,h_.extra,h_.list]at h z C ⊢;obtain⟨p,Z⟩:=a_ l.length;obtain⟨q,X⟩:=a_ i.length;rw[Z.o]at h z ⊢;rw[X.o]at h C ⊢;have f:=q_ (D_ w (.cells #[.int .i64 k,.bool t,.int .i64 n,.string s,.string x,.slice A p ca] 39) (.cells #[.int .i64 I,.bool D,.int .i64 m,.string r,.string j,.slice B q cb] 39));by_cases h1:k=I
 ·subst h1;by_cases M:t=D
  ·subst M;by_cases J:n=m
   ·subst J;by_cases E:s=r
    ·subst E;by_cases L:x=j
     ·subst L;have hb:h9_ l i=c0_ (.mk k t n s x l) (.mk k t n s x i):=by unfold h9_ c0_;simp
      have O:=q_ hb;have Y:=q_ (h.o _ (z.o.under f.o T.o) (C.o.under f.o R.o) (λg N=>by have:=T.o g N;have:=f.o.size;omega) (λg N=>by have:=R.o g N;have:=f.o.size;omega));clear hb;go_enter Tryz.func22,Tryz.ntmps22
      go_wp2_with fail;refine Y.o.mono ?_;rintro e w5 ⟨rfl,W⟩;rw[O.o];go_wp2_with fail;go_ret;exact B_ rfl (f.o.trans (W.mono f.o.size))
     ·have t5:=by_ L;have c:=cb_ (a:=.mk k t n s x l) (b:=.mk k t n s j i) (by simp[L]);have d:=q_ c;clear c L;go_enter Tryz.func22,Tryz.ntmps22
      go_wp2_with fail;go_ret;exact B_ d.o.symm f.o
    ·have t4:=by_ E;have c:=cb_ (a:=.mk k t n s x l) (b:=.mk k t n r j i) (by simp[E]);have d:=q_ c;clear c E;go_enter Tryz.func22,Tryz.ntmps22
     go_wp2_with fail;go_ret;exact B_ d.o.symm f.o
   ·have t3:(n==m)=false:=by simpa using J
    have c:=cb_ (a:=.mk k t n s x l) (b:=.mk k t m r j i) (by simp[J]);have d:=q_ c;clear c J;go_enter Tryz.func22,Tryz.ntmps22
    go_wp2_with fail;go_ret;exact B_ d.o.symm f.o
  ·have t2:(t==D)=false:=by simpa using M
   have c:=cb_ (a:=.mk k t n s x l) (b:=.mk k D m r j i) (by simp[M]);have d:=q_ c;clear c M;go_enter Tryz.func22,Tryz.ntmps22
   go_wp2_with fail;go_ret;exact B_ d.o.symm f.o
 ·have t1:(k==I)=false:=by simpa using h1
  have c:=cb_ (a:=.mk k t n s x l) (b:=.mk I D m r j i) (by simp[h1]);have d:=q_ c;clear c h1;go_enter Tryz.func22,Tryz.ntmps22
  go_wp2_with fail;go_ret;exact B_ d.o.symm f.o
theorem tz_ {b : Type} {l m:List b} {k:Nat} (h:l.take k=m.take k) (h1:l.length<=k) (a:m.length<=k):l=m:=by rw[List.take_of_length_le h1,List.take_of_length_le a]at h;exact h
theorem Gz_ (N:Nat):∀(l m:List h_) (_:af_ l<N) (F G:Nat->Prop) (A B:Option Addr) (b q ca cb:Nat) (w:World) (_:af_ l<=1000000000000) (_:∀g,F g->g<w.heap.size) (_:∀g,G g->g<w.heap.size) (_:LRd w F l A b) (_:LRd w G m B q),
    Calls Tryz.prog 64 #[.slice A b ca,.slice B q cb] w (z_ (h9_ l m) w):=by
 induction N with
 | zero=>exact λ_ _ h=>absurd h (Nat.not_lt_zero _)
 | succ N Y=>
  intro l m hN F G A B b q ca cb w p hF hG T U;have HL:=q_ T;have HM:=q_ U;have HF:=q_ hF;have HG:=q_ hG;have IH:=q_ Y;have f:b=l.length:=T.1;have a7:b<=1000000000000:=by have:=dd_ l;omega
  have i:q=m.length:=U.1;have E:=q_ f;have D:=q_ i;clear T U hF hG Y;by_cases L:b=q
  ·subst L;clear f i;go_enter Tryz.func64,Tryz.ntmps64
   go_wp2_with fail;go_loopw [5] (λP wr=>∃k:Nat,k<=b/\P = .int .i64 (k:Nat)/\Q_ (l.take k=m.take k)/\Below w.heap.size w wr) (λP _=>b-(intOf P).toNat)
   case atStart=>exact⟨0,by omega,rfl,q_ (by simp),Below.refl _ _⟩
   case round=>
    obtain⟨k,hk,rfl,C,c⟩:=hrel;have r:=q_ c;have X:=q_ (HL.o.under c HF.o);have a2:=q_ (HM.o.under c HG.o);have j:w.heap.size<=wr.heap.size:=c.size;clear c;by_cases a8:k<b
    ·obtain⟨x,z⟩:∃x,l[k]?=some x:=⟨l[k]'(by have:=E.o;omega),List.getElem?_eq_getElem _⟩;obtain⟨y,R⟩:∃y,m[k]?=some y:=⟨m[k]'(by have:=D.o;omega),List.getElem?_eq_getElem _⟩;have a3:=fc_ (List.mem_of_getElem? z);have a1:=fj_ x;obtain⟨ad,sx,rfl,_,⟨Z,cx,rfl,_,M⟩,_,c0,c1,c2,c3,c4,c5⟩:=X.o.cellsAt z;obtain⟨ae,sy,rfl,_,⟨By,cy,rfl,_,O⟩,_,d0,d1,d2,d3,d4,d5⟩:=a2.o.cellsAt R
     have a:=q_ (qq_ x y Z By cx cy wr.drew (F:=F) (G:=G) (λg S=>Nat.lt_of_lt_of_le (HF.o g S) j) (λg S=>Nat.lt_of_lt_of_le (HG.o g S) j) (M.keep λ_ _=>rfl) (O.keep λ_ _=>rfl)
      (λw' h1 h2 h3 h4=>IH.o x.list y.list (by omega) F G Z By _ _ cx cy w' (by omega) h3 h4 h1 h2))
     have HX:=q_ z;have HY:=q_ R;have e1:(0:Int)<=k:=by omega
     have e2:(k:Int)<b:=by omega
     clear z R a3 a1 M O;unfold c_ at a;obtain⟨lx,a5⟩:=a_ x.list.length;obtain⟨ly,a6⟩:=a_ y.list.length;rw[a5.o]at c5 a;rw[a6.o]at d5 a;by_cases s:x=y
     ·have p:=nz_ x;subst s;rw[p]at a;clear p;go_wp2_with fail;go_still_tail 8,(by kernel_rfl)
      change wpList _ _ _ _ _ (World.drew _);go_wp2_with fail;refine a.o.mono ?_;rintro e w5 ⟨rfl,t⟩;go_wp2_with fail;go_roundw
      case rel=>exact⟨k+1,by omega,by go_num,q_ (by rw[f_ HX.o,f_ HY.o,C.o]),r.o.drew.trans (t.mono j)⟩
      case measure=>simp[intOf];omega
     ·have p:=cb_ s;have d:h9_ l m=false:=ty_ (λe=>s (by have h1:=HX.o;rw[e,HY.o]at h1;exact (Option.some.inj h1).symm));have V:=q_ d;rw[p]at a;clear p d;go_wp2_with fail;go_still_tail 8,(by kernel_rfl)
      change wpList _ _ _ _ _ (World.drew _);go_wp2_with fail;refine a.o.mono ?_;rintro e w5 ⟨rfl,t⟩;go_wp2_with fail;go_ret;exact B_ V.o.symm (r.o.drew.trans (t.mono j))
    ·have W:k=b:=by omega
     subst W;have d:l=m:=tz_ C.o (by have:=E.o;omega) (by have:=D.o;omega);have I:h9_ l m=true:=by rw[d];exact wq_ m
     have a0:=q_ I;clear d I;go_wp2_with fail;go_ret;exact B_ a0.o.symm r.o
  ·have J:h9_ l m=false:=ty_ (λe=>L (by rw[f,i,e]));have a4:=q_ J;have t1:((b:Int) != q)=true:=by simp;omega
   clear J f i;go_enter Tryz.func64,Tryz.ntmps64
   go_wp2_with fail;go_ret;exact B_ a4.o.symm (Below.refl _ _)
def sb_ (c:UInt8):Bool:=decide (c.toNat<=32\/c.toNat=60\/c.toNat=62)
def gp_ (s:ByteArray):Bool:=decide (1<=s.size/\s.size<=1048576)&&s.data.toList.all λc=>!sb_ c
theorem a8_ (s:ByteArray):s.data.toList.length=s.size:=Array.length_toList
theorem kh_ (s:ByteArray) (k:Nat) (h:k<s.size):s.data.toList[k]?=some s[k]:=by rw[List.getElem?_eq_getElem (by rw[a8_];exact h)];rfl
theorem n0_ {p:UInt8->Bool} {l:List UInt8} {k:Nat} {c:UInt8} (h:l[k]?=some c) (a:(l.take k).all p=true) (b:p c=true):(l.take (k+1)).all p=true:=by rw[f_ h,List.all_append,a];simp[b]
theorem sc_ {p:UInt8->Bool} {l:List UInt8} {k:Nat} {c:UInt8} (h:l[k]?=some c) (a:p c=false):l.all p=false:=by rw[List.all_eq_false];exact⟨c,List.mem_of_getElem? h,by simp[a]⟩
theorem ay_ {a b:Bool} (h:a=b):Ending.returned (.bool a) = .returned (.bool b):=by rw[h]
theorem yq_ (s:ByteArray) (I:s.size<=9223372036854775807) (w:World):Calls Tryz.prog 186 #[.string s] w λe w'=>e = .returned (.bool (gp_ s))/\w'=w:=by
 go_enter Tryz.func186,Tryz.ntmps186
 go_wp2_with fail;go_loop [6] (λi=>∃k:Nat,k<=s.size/\i = .int .i64 (k:Nat)/\Q_ ((s.data.toList.take k).all (λc=>!sb_ c)=true)) (λi=>s.size-(intOf i).toNat)
 case atStart=>exact⟨0,by omega,rfl,q_ (by simp)⟩
 case round=>
  obtain⟨k,J,rfl,f⟩:=hrel;by_cases m:k<s.size
  ·have h:=q_ (kh_ s k m);obtain⟨x,r⟩:∃x:Nat,s[k].toNat=x:=⟨_,rfl⟩;have g:=q_ r;have G:x<256:=by rw[<-r];exact s[k].toNat_lt
   by_cases D:x<=32
   ·have b:=q_ (sc_ (p:=λc=>!sb_ c) h.o (by simp[sb_,g.o,D]));have y:(x:Int)<=32:=by omega
    go_wp2_with fail;go_ret;exact⟨ay_ (by unfold gp_;rw[b.o];simp),rfl⟩
   ·have y:decide ((x:Int)<=32)=false:=decide_eq_false (by omega);by_cases E:x=60
    ·have b:=q_ (sc_ (p:=λc=>!sb_ c) h.o (by simp[sb_,g.o,E]));have t:((x:Int)==60)=true:=by simp;omega
     go_wp2_with fail;go_ret;exact⟨ay_ (by unfold gp_;rw[b.o];simp),rfl⟩
    ·have t:((x:Int)==60)=false:=by simp;omega
     by_cases B:x=62
     ·have b:=q_ (sc_ (p:=λc=>!sb_ c) h.o (by simp[sb_,g.o,B]));have z:((x:Int)==62)=true:=by simp;omega
      go_wp2_with fail;go_ret;exact⟨ay_ (by unfold gp_;rw[b.o];simp),rfl⟩
     ·have z:((x:Int)==62)=false:=by simp;omega
      have j:=q_ (n0_ h.o f.o (by simp[sb_,g.o];omega));go_wp2_with fail;go_round
      case rel=>exact⟨k+1,by omega,by go_num,q_ j.o⟩
      case measure=>simp[intOf];omega
  ·have q:k=s.size:=by omega
   have a:=f.o;rw[List.take_of_length_le (by rw[a8_];omega)]at a;have d:=q_ a;clear f a;subst q;by_cases h0:1<=s.size
   ·have h1:decide ((1:Int)<=s.size)=true:=decide_eq_true (by omega);by_cases L:s.size<=1048576
    ·have C:decide ((s.size:Int)<=1048576)=true:=decide_eq_true (by omega);go_wp2_with fail;go_ret;exact⟨ay_ (by unfold gp_;rw[d.o];simp;omega),rfl⟩
    ·have C:decide ((s.size:Int)<=1048576)=false:=decide_eq_false (by omega);go_wp2_with fail;go_ret;exact⟨ay_ (by unfold gp_;rw[d.o];simp;omega),rfl⟩
   ·have h1:decide ((1:Int)<=s.size)=false:=decide_eq_false (by omega);go_wp2_with fail;go_ret;exact⟨ay_ (by unfold gp_;rw[d.o];simp;omega),rfl⟩
def n1_ (x:Nat):Bool:=decide ((97<=x/\x<=122)\/(65<=x/\x<=90)\/x=95)
def h6_ (x:Nat):Bool:=decide (48<=x/\x<=57)
def jk_ (c:UInt8):Bool:=n1_ c.toNat || h6_ c.toNat
def e2_ (s:ByteArray):Bool:=decide (1<=s.size/\s.size<=64)&&((s.data.toList.head?.map λc=>!h6_ c.toNat).getD false&&s.data.toList.all jk_)
theorem qr_ {s:ByteArray} (h:0<s.size):s.data.toList.head?=some (s[0]' h):=by have:=kh_ s 0 h;rw[List.head?_eq_getElem?];exact this
theorem qs_ {s:ByteArray} (h:¬(1<=s.size/\s.size<=64)):e2_ s=false:=by unfold e2_;simp only[decide_eq_false h];rfl
theorem G0_ {s:ByteArray} {k:Nat} {c:UInt8} (h:s.data.toList[k]?=some c) (a:jk_ c=false):e2_ s=false:=by unfold e2_;rw[sc_ h a];simp
theorem Ct_ {s:ByteArray} {c:UInt8} (h:s.data.toList[0]?=some c) (a:h6_ c.toNat=true):e2_ s=false:=by unfold e2_;rw[List.head?_eq_getElem?,h];simp[a]
theorem Cu_ {s:ByteArray} (h1:1<=s.size) (a:s.size<=64) (h0:∀c,s.data.toList[0]?=some c->h6_ c.toNat=false) (b:s.data.toList.all jk_=true):e2_ s=true:=by unfold e2_;rw[b,qr_ (by omega)];have:=h0 _ (kh_ s 0 (by omega));simp[h1,a,this]
theorem Cv_ (s:ByteArray) (hs:s.size<=9223372036854775807) (w:World):Calls Tryz.prog 187 #[.string s] w λe w'=>e = .returned (.bool (e2_ s))/\w'=w:=by
 go_enter Tryz.func187,Tryz.ntmps187
 go_wp2_with fail;go_loop [8] (λi=>∃k:Nat,k<=s.size/\i = .int .i64 (k:Nat)/\Q_ ((s.data.toList.take k).all jk_=true/\∀c,0<k->s.data.toList[0]?=some c->h6_ c.toNat=false)) (λi=>s.size-(intOf i).toNat)
 case atStart=>exact⟨0,by omega,rfl,q_ ⟨by simp,λc h=>absurd h (by omega)⟩⟩
 case round=>
  obtain⟨k,hk,rfl,b⟩:=hrel;by_cases J:k<s.size
  ·have q:=q_ (kh_ s k J);obtain⟨x,N⟩:∃x:Nat,s[k].toNat=x:=⟨_,rfl⟩;have z:=q_ N;have a0:x<256:=by rw[<-N];exact s[k].toNat_lt
   go_upto_region 5 with fail;go_cut [5] (λR W=>R = .bool (n1_ x)/\W=w)
   case first=>
    by_cases T:97<=x
    ·by_cases V:x<=122
     ·have y:decide ((97:Int)<=x)=true:=decide_eq_true (by omega);have I:decide ((x:Int)<=122)=true:=decide_eq_true (by omega);have a:n1_ x=true:=decide_eq_true (.inl ⟨T,V⟩);go_wp2_with fail;go_meet;exact⟨by rw[a],rfl⟩
     ·have y:decide ((97:Int)<=x)=true:=decide_eq_true (by omega);have I:decide ((x:Int)<=122)=false:=decide_eq_false (by omega);have r:decide ((65:Int)<=x)=true:=decide_eq_true (by omega);have P:decide ((x:Int)<=90)=false:=decide_eq_false (by omega);have G:((x:Int)==95)=false:=by simp;omega
      have a:n1_ x=false:=decide_eq_false (by omega);go_wp2_with fail;go_meet;exact⟨by rw[a],rfl⟩
    ·have y:decide ((97:Int)<=x)=false:=decide_eq_false (by omega);by_cases U:65<=x
     ·have r:decide ((65:Int)<=x)=true:=decide_eq_true (by omega);by_cases X:x<=90
      ·have P:decide ((x:Int)<=90)=true:=decide_eq_true (by omega);have a:n1_ x=true:=decide_eq_true (.inr (.inl ⟨U,X⟩));go_wp2_with fail;go_meet;exact⟨by rw[a],rfl⟩
      ·have P:decide ((x:Int)<=90)=false:=decide_eq_false (by omega);by_cases M:x=95
       ·have G:((x:Int)==95)=true:=by simp;omega
        have a:n1_ x=true:=decide_eq_true (.inr (.inr M));clear M;go_wp2_with fail;go_meet;exact⟨by rw[a],rfl⟩
       ·have G:((x:Int)==95)=false:=by simp;omega
        have a:n1_ x=false:=decide_eq_false (by omega);go_wp2_with fail;go_meet;exact⟨by rw[a],rfl⟩
     ·have r:decide ((65:Int)<=x)=false:=decide_eq_false (by omega);have G:((x:Int)==95)=false:=by simp;omega
      have a:n1_ x=false:=decide_eq_false (by omega);go_wp2_with fail;go_meet;exact⟨by rw[a],rfl⟩
   case rest=>
    obtain⟨D,rfl⟩:=hcut;by_cases a:n1_ x=true
    ·rw[a]at D;subst D;have j:jk_ s[k]=true:=by unfold jk_;rw[z.o,a];rfl
     have E:h6_ x=false:=by unfold n1_ at a;have:=of_decide_eq_true a;exact decide_eq_false (by omega)
     have p:=q_ (n0_ q.o b.o.1 j)
     have C:=q_ (show ∀c,0<k+1->s.data.toList[0]?=some c->h6_ c.toNat=false from λc _ h0=>by
      by_cases f:k=0
      ·have h1:=q.o;subst f;rw[h0]at h1;rw[Option.some.inj h1,z.o];exact E
      ·exact b.o.2 c (by omega) h0)
     clear j a E;go_wp2_with fail;go_round
     case rel=>exact⟨k+1,by omega,by go_num,q_ ⟨p.o,C.o⟩⟩
     case measure=>simp[intOf];omega
    ·have a:n1_ x=false:=by simpa using a
     rw[a]at D;subst D;have Y:=q_ a;clear a;by_cases C:48<=x/\x<=57
     ·have y:decide ((x:Int)<48)=false:=decide_eq_false (by omega);have I:decide ((57:Int)<x)=false:=decide_eq_false (by omega);have d:h6_ x=true:=decide_eq_true C;by_cases f:k=0
      ·have m:=q_ (show e2_ s=false from Ct_ (c:=s[k]) (by have h1:=q.o;subst f;exact h1) (by rw[z.o];exact d));have r:((k:Int)==0)=true:=by simp;omega
       clear d f;go_wp2_with fail;go_ret;exact⟨ay_ m.o.symm,rfl⟩
      ·have j:jk_ s[k]=true:=by unfold jk_;rw[z.o,d];simp
       have p:=q_ (n0_ q.o b.o.1 j);have O:=q_ (show ∀c,0<k+1->s.data.toList[0]?=some c->h6_ c.toNat=false from λc _ h0=>b.o.2 c (by omega) h0);have r:((k:Int)==0)=false:=by simp;omega
       clear d j;go_wp2_with fail;go_round
       case rel=>exact⟨k+1,by omega,by go_num,q_ ⟨p.o,O.o⟩⟩
       case measure=>simp[intOf];omega
     ·have d:h6_ x=false:=decide_eq_false C;have j:jk_ s[k]=false:=by unfold jk_;rw[z.o,d,Y.o];rfl
      have m:=q_ (G0_ q.o j);clear d j;by_cases f:k=0
      ·have r:((k:Int)==0)=true:=by simp;omega
       clear f;go_wp2_with fail;go_ret;exact⟨ay_ m.o.symm,rfl⟩
      ·have r:((k:Int)==0)=false:=by simp;omega
       by_cases a3:x<48
       ·have y:decide ((x:Int)<48)=true:=decide_eq_true (by omega);go_wp2_with fail;go_ret;exact⟨ay_ m.o.symm,rfl⟩
       ·have y:decide ((x:Int)<48)=false:=decide_eq_false (by omega);have I:decide ((57:Int)<x)=true:=decide_eq_true (by omega);go_wp2_with fail;go_ret;exact⟨ay_ m.o.symm,rfl⟩
  ·have L:k=s.size:=by omega
   have g:=b.o;rw[List.take_of_length_le (by rw[a8_];omega)]at g;have B:=q_ g;clear b g;subst L;by_cases h0:1<=s.size
   ·have h1:decide ((1:Int)<=s.size)=true:=decide_eq_true (by omega);by_cases Z:s.size<=64
    ·have S:decide ((s.size:Int)<=64)=true:=decide_eq_true (by omega);have t:=q_ (Cu_ h0 Z (λc q=>B.o.2 c (by omega) q) B.o.1);go_wp2_with fail;go_ret;exact⟨ay_ t.o.symm,rfl⟩
    ·have S:decide ((s.size:Int)<=64)=false:=decide_eq_false (by omega);have t:=q_ (qs_ (s:=s) (by omega));go_wp2_with fail;go_ret;exact⟨ay_ t.o.symm,rfl⟩
   ·have h1:decide ((1:Int)<=s.size)=false:=decide_eq_false (by omega);have t:=q_ (qs_ (s:=s) (by omega));go_wp2_with fail;go_ret;exact⟨ay_ t.o.symm,rfl⟩
def n2_ (w:World) (A:Option Addr) (D:List Nat):Prop:=∀(i:Nat) (x:Nat),D[i]?=some x->∃ad,A=some ad/\(ad.add i).block<w.heap.size/\w.cell? (ad.add i)=some (.int .i64 (x:Int))
theorem n2_.under {w w':World} {A:Option Addr} {D:List Nat} (h:n2_ w A D) (hb:Below w.heap.size w w'):n2_ w' A D:=λi x b=>by
 obtain⟨ad,d,a,c⟩:=h i x b;exact⟨ad,d,Nat.lt_of_lt_of_le a hb.size,(hb.cell (p:=ad.add i) a).trans c⟩
def atD (D:List Nat) (i:Nat):Nat:=(D[i]?).getD 0
def ml_ (D:List Nat):Bool:=D.all (· == 0)
end
section
open Go Go.RowKit Go.Maps Go.WideMaps
theorem aa_ {w w':World} {o:Obj} {a:Option Nat} (h:(w.alloc o).grownBy w' a):w.grownBy w' a:=
 ⟨h.os,h.tape,h.output,Nat.le_trans (by simp) h.size,λk c b=>(h.block k (by simp;omega) b).trans (Below.heap_alloc w o k c)⟩
theorem i0_ {P:Program} {wr:World} {j:Array Oper} {rest:List Oper} {o:Oper} {a:Act} {Q:Exit->Act->World->Prop} (q:o.guard=none) (s x:Operand) (t:TypeId)
    (J:o.op = .call { callee:=.builtin .append,args:=#[s,x],argTypes:=#[t,t] })
    (b:Nat) (e:TypeId) (z:Value) (size bytes:Nat) (O:P.underlying t=some (.slice e)) (f:(P.info? e).map (λi=>(i.zero,i.size,i.bytes))=some (some z,size,bytes))
    (B:z.cells.size=size) (p:0<size)
    (v:Value) (n:Nat) (xs:List Value) (I:a.eval s=v) (k:wr.ownsRow b e size v n xs) (E:b<=wr.heap.size)
    (cs:Array Value) (m c:Nat) (R:a.eval x = .slice (some ⟨wr.heap.size,0,none⟩) m c) (L:cs.size=m*size) (h1:∀u∈cs.toList,u.oneCell'=true)
    (C:0<m) (N:n+m<=100000000) (hb:bytes<=1000)
    (h:∀g d w',w'.ownsRow b e size (.slice (some ⟨g,0,none⟩) (n+m) d) (n+m) (xs++cs.toList)->wr.grownBy w' v.ownBlock->(v.ownBlock=some g\/wr.heap.size<=g)->wpList P j Q rest (a.put o.dst (.slice (some ⟨g,0,none⟩) (n+m) d)) w'):wpList P j Q (o::rest) a (wr.alloc (.cells cs e)):=by
 obtain⟨M,hi,r,D,y⟩:=info_parts f
 refine wpList_append_lies _ q s x t J b e M z size bytes O hi r D y B p v n xs I (k.alloc _) ⟨wr.heap.size,0,none⟩ m c cs.toList R (by simpa using L)
  (World.news_of_block (heap_alloc_new wr _)) h1 C (by unfold maxLen;omega) (Nat.le_trans (Nat.mul_le_mul N hb) (by decide)) (by simp;omega) _ rfl
  (λg d w' h1 S G _=>h g d w' h1 (aa_ S) (G.imp id (λe=>by rw[e];simp)))
def VS (s:ByteArray):Prop:=s.size<=maxLen
def ji_ (s:ByteArray):Lit:=.string s.data.toList
theorem t0_:∀x y:ByteArray,VS x->VS y->ji_ x=ji_ y->x=y:=λx y _ _ h=>by
 injection h with h;exact ByteArray.ext (Array.toList_inj.1 h)
theorem n3_:∀x:ByteArray,VS x->WideAt.IsKeyLit (ji_ x):=λ_ _=>trivial
theorem Cw_:Keyed Tryz.prog 9:=string_keyed Tryz.underlying9
theorem hg_:(Tryz.prog.info? 9).map (λi=>(i.zero,i.size,i.bytes))=some (some (.string ⟨#[]⟩),1,16):=by kernel_rfl
theorem sd_ (x:ByteArray):∀u∈(#[Value.string x]:Array Value).toList,u.oneCell'=true:=by intro u a;simp at a;subst a;rfl
theorem Jy_ {X:DataW Unit} {a b:Int} (h1:X = .lit (.int .i64 a)) (c:X = .lit (.int .i64 b)):a=b:=by have:=h1.symm.trans c;injection this with this;injection this
theorem infoByte:(Tryz.prog.info? 5).map (λi=>(i.zero,i.size,i.bytes))=some (some (.int .u8 0),1,1):=by kernel_rfl
theorem se_ (x:Int):∀u∈(#[Value.int .u8 x]:Array Value).toList,u.oneCell'=true:=by intro u a;simp at a;subst a;rfl
theorem n4_ {w:World} {B b:Nat} {e:TypeId} {a:Nat} {v:Value} {n:Nat} {xs:List Value} (h:w.ownsRow B e a v n xs) (f:b<=B):w.ownsRow b e a v n xs:=by
 refine⟨h.1,?_⟩;rcases h.2 with h0 | ⟨g,c,d,rfl,hb,rest⟩
 ·exact .inl h0
 ·exact .inr ⟨g,c,d,rfl,Nat.le_trans f hb,rest⟩
def t1_ (l:List UInt8):ByteArray:=⟨l.toArray⟩
theorem Cx_ {w:World} {b:Nat} {v:Value} {l:List UInt8} (h:w.ownsRow b 5 1 v l.length (Lib.byteCells l)):(convert 197 9 v).run Tryz.prog w = .ok (.string (t1_ l)) w:=by
 have c:Tryz.prog.underlying 5=some (.int .u8):=by kernel_rfl
 have d:Tryz.prog.underlying 9=some .string:=by kernel_rfl
 rcases h.2 with⟨rfl,h0⟩ | ⟨g,e,i,rfl,_,f,_,_,_,a⟩
 ·obtain rfl:l=[]:=List.eq_nil_of_length_eq_zero h0;exact Lib.run_convert_nil_bytes w 197 9 5 0 Tryz.underlying197 c d
 ·exact run_convert_bytes_back w 197 9 5 ⟨g,0,none⟩ e l Tryz.underlying197 c d (Lib.bytes_of_row f (by simpa using a))
def Jc_ (w:World) (v a:Value):Prop:=a.ownBlock=v.ownBlock\/∀g,a.ownBlock=some g->w.heap.size<=g
theorem Jc_.refl (w:World) (v:Value):Jc_ w v v:=.inl rfl
theorem di_ {w:World} {c e d g:Nat} {v:Value} {n:Nat} {xs:List Value} (h:w.ownsRow c e d v n xs) (a:v.ownBlock=some g):∃b,w.heap[g]?=some (.cells b e (0,0)):=by
 rcases h.2 with⟨h0,_⟩ | ⟨j,i,b,h0,_,f,_⟩
 ·rw[h0]at a;cases a
 ·rw[h0]at a;injection a with a;subst a;exact⟨_,f⟩
theorem dj_ {w:World} {a e b c C:Nat} {v:Value} {n:Nat} {xs:List Value} (h:w.ownsRow a e b v n xs) {cs:Array Value} (f:w.heap[c]?=some (.cells cs C (0,0))) (d:e≠C):v.ownBlock≠some c:=λg=>by
 obtain⟨i,h1⟩:=di_ h g;rw[f]at h1;injection h1 with h1;injection h1 with _ h1;exact d h1.symm
theorem i1_ {w:World} {d b e i f c:Nat} {v u:Value} {n m:Nat} {xs r:List Value} (h:w.ownsRow d e f v n xs) (k:w.ownsRow b i c u m r) (j:e≠i):∀g,u.ownBlock=some g->v.ownBlock≠some g:=λg q o=>by
 obtain⟨s,h1⟩:=di_ h o;obtain⟨p,a⟩:=di_ k q;rw[h1]at a;injection a with a;injection a with _ a;exact j a
theorem b_ {w:World} {c:Nat} {o:Obj} (h:w.heap[c]?=some o):c<w.heap.size:=by
 rcases Nat.lt_or_ge c w.heap.size with a | a
 ·exact a
 ·rw[Array.getElem?_eq_none a]at h;cases h
theorem wr_ {w:World} {b e c:Nat} {v:Value} {n:Nat} {xs:List Value} (h:w.ownsRow b e c v n xs):∃A a,v = .slice A n a:=by
 rcases h.2 with⟨rfl,h0⟩ | ⟨g,a,d,rfl,_⟩
 ·exact⟨none,0,by rw[h0]⟩
 ·exact⟨_,a,rfl⟩
theorem G1_ (k:IntKind) (x:Int):∀u∈(#[Value.int k x]:Array Value).toList,u.oneCell'=true:=by intro u a;simp at a;subst a;rfl
def dx_ (s:ByteArray):Bool:=s.data.toList.head?==some 45
def m1_ (s:ByteArray):Bool:=s.data.toList.head?==some 45 || s.data.toList.head?==some 43
def cz_ (s:ByteArray):ByteArray:=cond (m1_ s) (s.extract 1 s.size) s
def c7_:List UInt8->Nat->Option Nat->Option (Option Nat)
 | [],_,p=>some p
 | c::l,i,p=>cond (c==46&&p.isNone) (c7_ l (i+1) (some i)) (cond (h6_ c.toNat) (c7_ l (i+1) p) none)
def ei_:List UInt8->List Nat
 | []=>[]
 | c::l=>ei_ l++cond (c==46) [] [c.toNat-48]
def n5_ (n:Nat):Option Nat->Nat
 | none=>0
 | some i=>n-1-i
def jr_ (s:ByteArray):Option (Bool×List Nat×Nat):=
 match c7_ (cz_ s).data.toList 0 none with
 | none=>none
 | some p=>cond (decide ((cz_ s).size=0) || (p==some 0) || (p==some ((cz_ s).size-1))) none
     (some (dx_ s,ei_ (cz_ s).data.toList,n5_ (cz_ s).size p))
theorem G2_:(Tryz.prog.info? 3).map (λi=>(i.zero,i.size,i.bytes))=some (some (.int .i64 0),1,8):=by kernel_rfl
theorem G3_ {s:ByteArray} (h:0<s.size) (h1:s[0].toNat=45):dx_ s=true/\m1_ s=true/\cz_ s=s.extract 1 s.size:=by have a:s[0]=45:=UInt8.toNat_inj.1 h1;have b:=qr_ h;unfold cz_ m1_ dx_;rw[b,a];exact⟨rfl,rfl,rfl⟩
theorem zs_ {s:ByteArray} (h:¬0<s.size):dx_ s=false/\m1_ s=false/\cz_ s=s:=by have a:s.data.toList=[]:=List.eq_nil_of_length_eq_zero (by rw[a8_];omega);unfold cz_ m1_ dx_;rw[a];exact⟨rfl,rfl,rfl⟩
theorem t2_ (s:ByteArray):(cz_ s).size<=s.size:=by
 unfold cz_
 cases m1_ s
 ·exact Nat.le_refl _
 ·simp
theorem Jz_ {l:List UInt8}:∀{i:Nat} {p q:Option Nat},c7_ l i p=some q->∀c∈l,c=46\/h6_ c.toNat=true:=by
 induction l with
 | nil=>intro i p q _ c a;cases a
 | cons d l b=>
  intro i p q h c a;unfold c7_ at h
  cases h1:(d==46&&p.isNone) with
  | true=>
   rw[h1]at h;rcases List.mem_cons.1 a with rfl | a
   ·exact .inl (beq_iff_eq.1 (Bool.and_eq_true_iff.1 h1).1)
   ·exact b h c a
  | false=>
   rw[h1]at h
   cases h2:h6_ d.toNat with
   | true=>
    rw[h2]at h;rcases List.mem_cons.1 a with rfl | a
    ·exact .inr h2
    ·exact b h c a
   | false=>rw[h2]at h;cases h
theorem t3_ (l:List UInt8):(ei_ l).length<=l.length:=by
 induction l with
 | nil=>simp[ei_]
 | cons c l a=>
  unfold ei_
  cases h:c==46<;>simp<;>omega
def sf_ (D:List Nat) (S:Nat):Nat->Nat->Nat
 | 0,k=>k
 | f+1,k=>if k<S/\atD D k=0 then sf_ D S f (k+1) else k
def mm_ (D:List Nat) (S:Nat):Nat->Nat
 | 0=>0
 | h+1=>if S+1<h+1/\atD D h=0 then mm_ D S h else h+1
def n6_ (D:List Nat) (S:Nat):Nat:=sf_ D S S 0
def mn_ (D:List Nat) (S:Nat):Nat:=max (mm_ D S D.length) (S+1)
theorem G4_ (D:List Nat) (S:Nat):∀f k,k+f<=S->sf_ D S f k<=S:=by
 intro f;induction f with
 | zero=>intro k h;exact h
 | succ f a=>intro k h;unfold sf_;split;exact a _ (by omega);omega
theorem Cy_ (D:List Nat) (S:Nat):∀h,mm_ D S h<=h:=by
 intro h;induction h with
 | zero=>exact Nat.le_refl _
 | succ h a=>unfold mm_;split;omega;omega
structure yr_ (w:World) (b:Nat) (neg:Bool) (A:Option Addr) (n cap S:Nat) (D:List Nat) (wr:World):Prop where
 below:Below w.heap.size w wr
 blk:wr.heap[b]?=some (.cells #[.bool neg,.slice A n cap,.int .i64 (S:Int)] 277 (0,0))
 ints:n2_ wr A D
 size:b+1<=wr.heap.size
theorem yr_.drewN {w wr:World} {b n c S:Nat} {a:Bool} {A:Option Addr} {D:List Nat} (h:yr_ w b a A n c S D wr) (m:Nat):yr_ w b a A n c S D (wr.drewN m):=
 ⟨⟨h.below.os,h.below.tape,h.below.output,h.below.size,h.below.block⟩,h.blk,h.ints,h.size⟩
def ws_ (L:List UInt8):List Value:=L.map λc=>Value.int .u8 (c.toNat:Int)
structure lk_ (w:World) (b:Nat) (neg:Bool) (A:Option Addr) (n cap S:Nat) (D:List Nat) (L:List UInt8) (v:Value) (wr:World):Prop where
 form:yr_ w b neg A n cap S D wr
 row:wr.ownsRow (b+1) 5 1 v L.length (ws_ L)
theorem lk_.drewN {w wr:World} {b n c S:Nat} {a:Bool} {A:Option Addr} {D:List Nat} {L:List UInt8} {v:Value} (h:lk_ w b a A n c S D L v wr) (m:Nat):lk_ w b a A n c S D L v (wr.drewN m):=
 ⟨h.form.drewN m,h.row⟩
theorem lk_.app {w wr a:World} {b n d S:Nat} {f:Bool} {A:Option Addr} {D:List Nat} {L:List UInt8} {v i:Value} (h:lk_ w b f A n d S D L v wr) (m:n2_ w A D) (p:w.heap.size<=b) (g:wr.grownBy a v.ownBlock) {c:UInt8} (j:a.ownsRow (b+1) 5 1 i (L.length+1) (ws_ L++[.int .u8 (c.toNat:Int)])) :
    lk_ w b f A n d S D (L++[c]) i a:=by
 have hb:Below w.heap.size w a:=h.form.below.grown g (by have:=h.form.size;omega) (λk o=>by have:=(h.row.lt k o).1;omega);refine⟨⟨hb,?_,m.under hb,Nat.le_trans h.form.size g.size⟩,?_⟩
 ·exact (g.block b (by have:=h.form.size;omega) (λe=>dj_ h.row h.form.blk (by decide) e.symm)).trans h.form.blk
 ·rw[List.length_append];unfold ws_;rw[List.map_append];exact j
def ee_ (D:List Nat) (S:Nat):Bool:=decide (40<mn_ D S-S) || decide (20<S-n6_ D S)
def Cz_ (y:Nat):UInt8:=UInt8.ofNat (48+y)
def e3_ (D:List Nat) (hi lo:Nat):List UInt8:=(List.range (hi-lo)).map λj=>Cz_ (atD D (hi-1-j))
theorem hh_ (D:List Nat) (hi lo:Nat):(e3_ D hi lo).length=hi-lo:=by unfold e3_;simp
theorem zt_ (D:List Nat) (hi:Nat):e3_ D hi hi=[]:=by unfold e3_;simp
theorem C0_ {y:Nat} (h:y<=9):(Cz_ y).toNat=48+y:=by unfold Cz_;rw[UInt8.toNat_ofNat'];exact Nat.mod_eq_of_lt (by omega)
def n7_ (a:Bool) (D:List Nat) (S:Nat):ByteArray:=
 ⟨(cond (a && !ml_ D) [45] []++e3_ D (mn_ D S) S++[46]++e3_ D S (n6_ D S)++cond (decide (n6_ D S=S)) [48] []:List UInt8).toArray⟩
theorem zu_ {l:List UInt8} (h:∀c∈l,c=46\/h6_ c.toNat=true):∀x∈ei_ l,x<=9:=by
 induction l with
 | nil=>intro x a;cases a
 | cons c l b=>
  intro x a;unfold ei_ at a;rcases List.mem_append.1 a with a | a
  ·exact b (λd f=>h d (List.mem_cons_of_mem _ f)) x a
  ·cases hc:c==46 with
   | true=>rw[hc]at a;cases a
   | false=>
    rw[hc]at a;have a:x∈[c.toNat-48]:=a;rw[List.mem_singleton]at a;rcases h c List.mem_cons_self with e | e
    ·rw[e]at hc;cases hc
    ·unfold h6_ at e;have:=of_decide_eq_true e;omega
theorem wt_ {s:ByteArray} {a:Bool} {D:List Nat} {S:Nat} (h:jr_ s=some (a,D,S)):(∀i,atD D i<=9)/\D.length<=s.size/\S<=s.size:=by
 unfold jr_ at h
 cases hp:c7_ (cz_ s).data.toList 0 none with
 | none=>rw[hp]at h;cases h
 | some p=>
  rw[hp]at h;simp only at h
  cases hc:(decide ((cz_ s).size=0) || p==some 0 || p==some ((cz_ s).size-1)) with
  | true=>rw[hc]at h;cases h
  | false=>
   rw[hc]at h;have h:some (dx_ s,ei_ (cz_ s).data.toList,n5_ (cz_ s).size p)=some (a,D,S):=h;injection h with h;injection h with _ h;injection h with hD hS;have b:=t2_ s;refine⟨λi=>?_,?_,?_⟩
   ·unfold atD
    cases hi:D[i]? with
    | none=>simp
    | some x=>exact zu_ (Jz_ hp) x (by rw[hD];exact List.mem_of_getElem? hi)
   ·have:=t3_ (cz_ s).data.toList;rw[hD,a8_]at this;omega
   ·rw[<-hS]
    cases p with
    | none=>exact Nat.zero_le _
    | some i=>show (cz_ s).size-1-i<=s.size;omega
def fk_ (s:ByteArray):ByteArray×Int:=
 match jr_ s with
 | none=>(⟨#[]⟩,6)
 | some (neg,D,S)=>(cond (ee_ D S) ⟨#[]⟩ (n7_ neg D S),cond (ee_ D S) 2 0)
def c1_ (s:ByteArray):Bool:=decide ((fk_ s).2=0)&&decide ((fk_ s).1=s)
end
section
open Go Go.RowKit Go.Shelf Go.Lib
def ten:List UInt8:=[48,49,50,51,52,53,54,55,56,57]
theorem G5_ (s:ByteArray) (w:World) (b:s.size<=9223372036854775807) :
    Calls Tryz.prog 324 #[.string s,.string ⟨#[48,49,50,51,52,53,54,55,56,57]⟩] w λe w'=>e = .returned (.string ⟨(Lib.trimS s.data.toList ten).toArray⟩)/\Below w.heap.size w w':=by
 have a:=Any.strings_Trim_laid Tryz.lays160 (by kernel_rfl) s ⟨#[48,49,50,51,52,53,54,55,56,57]⟩ w b (by decide) (ascii_of_all (by decide));exact a
theorem zv_ (s:ByteArray) (w:World) (b:s.size<=9223372036854775807) :
    Calls Tryz.prog 326 #[.string s,.string ⟨#[48]⟩] w λe w'=>e = .returned (.string ⟨(Lib.trimRightS s.data.toList [48]).toArray⟩)/\Below w.heap.size w w':=by
 have a:=Any.strings_TrimRight_laid Tryz.lays162 (by kernel_rfl) s ⟨#[48]⟩ w b (by decide) (ascii_of_all (by decide));exact a
theorem zw_ (s:ByteArray) (w:World) :
    Calls Tryz.prog 327 #[.string s,.string ⟨#[48]⟩] w λe w'=>e = .returned (.string ⟨(Lib.trimLeftS s.data.toList [48]).toArray⟩)/\Below w.heap.size w w':=by
 have a:=Any.strings_TrimLeft_laid Tryz.lays161 (by kernel_rfl) s ⟨#[48]⟩ w (by decide) (ascii_of_all (by decide));exact a
def zx_ (s:ByteArray):Bool:=!s.toList.isEmpty&&((⟨(Lib.trimS s.data.toList ten).toArray⟩:ByteArray)).toList.isEmpty
theorem mo_ (s:ByteArray) (w:World) (g:s.size<=9223372036854775807):Calls Tryz.prog 296 #[.string s] w (z_ (zx_ s) w):=by
 have a:=G5_ s w g;obtain⟨r,b⟩:=a_ (⟨(Lib.trimS s.data.toList ten).toArray⟩:ByteArray);have c:=q_ (show zx_ s=(!s.toList.isEmpty&&r.toList.isEmpty) from by unfold zx_;rw[b.o]);rw[b.o]at a;have h:=q_ a;clear a;go_enter Tryz.func296,Tryz.ntmps296
 by_cases h0:s.toList=[]
 ·have f:=q_ (show false=zx_ s from by rw[c.o,h0];rfl);go_wp2_with fail;go_ret;exact⟨ay_ f.o,Below.refl _ _⟩
 ·go_wp2_with (go_at_call 324;refine h.o.mono ?_;rintro e w' ⟨rfl,d⟩)
  go_ret;exact⟨ay_ c.o.symm,d⟩
theorem n8_ (s p:ByteArray) (w:World):Calls Tryz.prog 294 #[.string s,.string p] w λe w'=>e = .returned (.bool (Lib.hasPrefix s.data.toList p.data.toList))/\w'=w:=
 Any.strings_HasPrefix Tryz.lays99 s p w
theorem ys_ (s p:ByteArray) (m:Int) (w:World) (b:s.size<4294967281) (a:w.cell? ⟨Tryz.lays145_ren.g 1,0,none⟩=some (.int .i64 m)) :
    Calls Tryz.prog 295 #[.string s,.string p] w λe w'=>e = .returned (.tuple #[.string ⟨(Lib.cut s.data.toList p.data.toList).1.toArray⟩,.string ⟨(Lib.cut s.data.toList p.data.toList).2.1.toArray⟩,.bool (Lib.cut s.data.toList p.data.toList).2.2])/\∃n,w'=w.drewN n:=
 Any.strings_Cut Tryz.lays145 s p m w b a
theorem J0_:Builder.Extra Tryz.prog Tryz.lays105_ren where
 sizeBuilder:=by kernel_rfl
 liesBuilder:=by kernel_rfl
 t5:=by kernel_rfl
 a5:=λ_=>by kernel_rfl
 z5:=λ_=>by kernel_rfl
 v5:=λ_=>by kernel_rfl
 infoByte:=by kernel_rfl
 cellsByte:=by kernel_rfl
 sizeByte:=by kernel_rfl
 neB5:=by decide
theorem n9_ (s:ByteArray) (c:Nat) (w:World) (b:c<=9223372036854775807) (a:s.size*c<=140737488355328) :
    Calls Tryz.prog 325 #[.string s,.int .i64 (c:Int)] w λe w'=>e = .returned (.string ⟨(Lib.repeatL s.data.toList c).toArray⟩)/\Below w.heap.size w w':=
 Any.strings_Repeat Tryz.lays105 J0_ s c w b a
end
section
open Go Go.RowKit
def js_ (d:List UInt8) (a:Nat):List UInt8:=if d.length<=a then List.replicate (a+1-d.length) 48++d else d
def eu_ (d:List UInt8) (a:Nat):List UInt8:=Lib.trimLeftS ((js_ d a).take ((js_ d a).length-a)) [48]
def hz_ (d:List UInt8) (a:Nat):List UInt8:=Lib.trimRightS ((js_ d a).drop ((js_ d a).length-a)) [48]
def cy_ (b:Bool) (d:List UInt8) (a:Nat):List UInt8×Int:=
 if 40<(eu_ d a).length\/20<(hz_ d a).length then ([],2)
 else if eu_ d a=[]/\hz_ d a=[] then ([48,46,48],0)
 else ((if b=true then [45] else [])++(if eu_ d a=[] then [48] else eu_ d a)++[46]++(if hz_ d a=[] then [48] else hz_ d a),0)
def e4_ (c:UInt8):Nat:=c.toNat-48
def bg_ (c:UInt8):Bool:=h6_ c.toNat
theorem c2_ {c:UInt8}:bg_ c=true↔48<=c.toNat/\c.toNat<=57:=by unfold bg_ h6_;exact decide_eq_true_iff
theorem t4_ {c:UInt8} (h:bg_ c=true):Cz_ (e4_ c)=c:=by
 have:=c2_.1 h;unfold Cz_ e4_;apply UInt8.toNat_inj.1;rw[UInt8.toNat_ofNat'];have:48+(c.toNat-48)=c.toNat:=by omega
 rw[this];exact Nat.mod_eq_of_lt (by omega)
theorem ll_ {c:UInt8} (h:bg_ c=true):e4_ c=0↔c=48:=by
 have:=c2_.1 h;unfold e4_;constructor
 ·intro e;exact UInt8.toNat_inj.1 (by show c.toNat=48;omega)
 ·intro e;subst e;rfl
theorem sg_ (c:UInt8):ten.contains c=bg_ c:=by
 have h:∀n:Fin 256,ten.contains (UInt8.ofNat n.val)=h6_ n.val:=by decide +kernel
 have a:=h ⟨c.toNat,c.toNat_lt⟩;have e:UInt8.ofNat c.toNat=c:=UInt8.ofNat_toNat;rw[show (⟨c.toNat,c.toNat_lt⟩:Fin 256).val=c.toNat from rfl,e]at a;exact a
def e5_ (l:List UInt8):Bool:=!l.isEmpty&&l.all bg_
theorem cd_ {a : Type} (p:a -> Bool) (l:List a):l.dropWhile p=[]↔l.all p=true:=by
 induction l with
 | nil=>simp
 | cons c l b=>
  rw[List.dropWhile_cons]
  cases h:p c
  ·simp[h]
  ·simp[h,b]
theorem zy_ (l cs:List UInt8):Lib.trimS l cs=[]↔l.all (cs.contains ·)=true:=by
 unfold Lib.trimS Lib.trimLeftS Lib.trimRightS;rw[cd_,List.all_reverse];constructor
 ·intro h
  have a:l.reverse.dropWhile (cs.contains ·)=[]:=by
   cases hd:l.reverse.dropWhile (cs.contains ·) with
   | nil=>rfl
   | cons c r=>
    have:=List.head_dropWhile_not (cs.contains ·) (l:=l.reverse) (by rw[hd];simp);rw[hd]at h;have b:cs.contains c=true:=by simp only[List.all_cons,Bool.and_eq_true]at h;exact h.1
    simp only[hd,List.head_cons]at this;rw[b]at this;cases this
  have:=(cd_ _ _).1 a;rwa [List.all_reverse]at this
 ·intro h;have:l.reverse.dropWhile (cs.contains ·)=[]:=(cd_ _ _).2 (by rw[List.all_reverse];exact h);rw[this];rfl
theorem zz_ (l:List UInt8):(⟨l.toArray⟩:ByteArray).data.toList=l:=rfl
theorem h0_ (s:ByteArray):s.toList.isEmpty=s.data.toList.isEmpty:=by rw[show s.toList=s.data.toList from Lib.toList_data s]
theorem yt_ (s:ByteArray):zx_ s=e5_ s.data.toList:=by
 unfold zx_ e5_;rw[h0_,h0_,zz_];congr 1
 have h:=zy_ s.data.toList ten;have e:(s.data.toList.all (ten.contains ·))=s.data.toList.all bg_:=by congr 1;funext c;exact sg_ c
 rw[e]at h
 cases hb:s.data.toList.all bg_
 ·rw[hb]at h
  cases ht:Lib.trimS s.data.toList ten
  ·exact absurd (h.1 ht) (by simp)
  ·rfl
 ·rw[hb]at h;rw[h.2 rfl];rfl
theorem C1_ {l:List UInt8} (h:46∉l):Lib.index l [46] = -1:=by
 induction l with
 | nil=>rfl
 | cons c l a=>
  unfold Lib.index;have d:(46:UInt8)≠c:=λe=>h (by rw[e];exact List.mem_cons_self);have b:[46].isPrefixOf (c::l)=false:=by simp[List.isPrefixOf,d]
  rw[b,a (λe=>h (List.mem_cons_of_mem _ e))];rfl
theorem z0_ {a b:List UInt8} (h:46∉a):Lib.index (a++46::b) [46]=a.length:=by
 induction a with
 | nil=>show Lib.index (46::b) [46]=_;unfold Lib.index;simp[List.isPrefixOf]
 | cons c a d=>
  show Lib.index (c::(a++46::b)) [46]=_;unfold Lib.index;have g:(46:UInt8)≠c:=λe=>h (by rw[e];exact List.mem_cons_self);have f:[46].isPrefixOf (c::(a++46::b))=false:=by simp[List.isPrefixOf,g]
  rw[f,d (λe=>h (List.mem_cons_of_mem _ e))];have:((a.length:Int) == -1)=false:=by rw[beq_eq_false_iff_ne];omega
  rw[this];simp
theorem C2_ {l:List UInt8} (h:46∉l):Lib.cut l [46]=(l,[],false):=by unfold Lib.cut;rw[C1_ h];rfl
theorem sh_ {a b:List UInt8} (h:46∉a):Lib.cut (a++46::b) [46]=(a,b,true):=by unfold Lib.cut;rw[z0_ h,if_pos (by omega)];simp
theorem qt_ (l:List UInt8):46∉l\/∃a b,l=a++46::b/\46∉a:=by
 induction l with
 | nil=>exact .inl (by simp)
 | cons c l f=>
  by_cases d:c=46
  ·exact .inr ⟨[],l,by rw[d];rfl,by simp⟩
  ·rcases f with h | ⟨a,b,h,g⟩
   ·exact .inl (λe=>by rcases List.mem_cons.1 e with e | e;exact d e.symm;exact h e)
   ·exact .inr ⟨c::a,b,by rw[h];rfl,λe=>by rcases List.mem_cons.1 e with e | e;exact d e.symm;exact g e⟩
theorem t5_ (l:List UInt8):∀(i j:Nat),c7_ l i (some j)=cond (l.all bg_) (some (some j)) none:=by
 induction l with
 | nil=>intro i j;rfl
 | cons c l a=>
  intro i j;unfold c7_;rw[show (c==46&&(some j).isNone)=false by simp];simp only[a];show cond false _ (cond (bg_ c) _ _)=_;rw[List.all_cons]
  cases bg_ c<;>rfl
theorem z1_ (l:List UInt8) (h:46∉l):∀(i:Nat),c7_ l i none=cond (l.all bg_) (some none) none:=by
 induction l with
 | nil=>intro i;rfl
 | cons c l a=>
  intro i;unfold c7_;have b:(c==46)=false:=beq_eq_false_iff_ne.2 (λe=>h (by rw[e];exact List.mem_cons_self));rw[b,a (λe=>h (List.mem_cons_of_mem _ e))];show cond (bg_ c) _ _=_;rw[List.all_cons]
  cases bg_ c<;>rfl
theorem oa_ (a b:List UInt8) (h:46∉a):∀(i:Nat),c7_ (a++46::b) i none=cond (a.all bg_&&b.all bg_) (some (some (i+a.length))) none:=by
 induction a with
 | nil=>
  intro i;show c7_ (46::b) i none=_;unfold c7_;rw[show ((46:UInt8)==46&&(none:Option Nat).isNone)=true by rfl];rw[t5_];rfl
 | cons c a d=>
  intro i;show c7_ (c::(a++46::b)) i none=_;unfold c7_;have f:(c==46)=false:=beq_eq_false_iff_ne.2 (λe=>h (by rw[e];exact List.mem_cons_self));rw[f,d (λe=>h (List.mem_cons_of_mem _ e))];show cond (bg_ c) _ _=_;rw[List.all_cons,show i+1+a.length=i+(c::a).length by simp;omega]
  cases bg_ c<;>rfl
theorem si_ {l:List UInt8} (h:46∉l):ei_ l=(l.map e4_).reverse:=by
 induction l with
 | nil=>rfl
 | cons c l a=>
  unfold ei_;have b:(c==46)=false:=beq_eq_false_iff_ne.2 (λe=>h (by rw[e];exact List.mem_cons_self));rw[b,a (λe=>h (List.mem_cons_of_mem _ e))];simp[e4_]
theorem C3_ (a b:List UInt8):ei_ (a++b)=ei_ b++ei_ a:=by
 induction a with
 | nil=>simp[ei_]
 | cons c a d=>simp[ei_,d]
theorem z2_ {l:List UInt8} (h:l.all bg_=true):46∉l:=λe=>by
 have:=List.all_eq_true.1 h _ e
 cases this
theorem t6_ {a b:List UInt8} (c:a.all bg_=true) (hb:b.all bg_=true):ei_ (a++46::b)=((a++b).map e4_).reverse:=by rw[C3_,si_ (z2_ c)];show (ei_ b++[])++_=_;rw[si_ (z2_ hb)];simp
def ci_ (d:List UInt8):List Nat:=(d.map e4_).reverse
theorem mp_ (d:List UInt8):(ci_ d).length=d.length:=by simp[ci_]
theorem nm_ (d:List UInt8) {i:Nat} (h:i<d.length):atD (ci_ d) i=e4_ (d[d.length-1-i]'(by omega)):=by unfold atD ci_;rw[List.getElem?_reverse (by simpa using h)];simp only[List.length_map,List.getElem?_map];rw[List.getElem?_eq_getElem (by omega)];rfl
theorem Lb_ (a b:List UInt8) {i:Nat} (h:i<a.length):atD (ci_ (a++b)) (b.length+i)=e4_ (a[a.length-1-i]'(by omega)):=by
 rw[nm_ _ (by simp;omega)];congr 1
 rw[List.getElem_append_left (by simp;omega)];congr 1
 simp;omega
theorem Lc_ (a b:List UInt8) {i:Nat} (h:i<b.length):atD (ci_ (a++b)) i=e4_ (b[b.length-1-i]'(by omega)):=by
 rw[nm_ _ (by simp;omega)];congr 1
 rw[List.getElem_append_right (by simp;omega)];congr 1
 simp;omega
def a3_ (c:UInt8):Bool:=[48].contains c
theorem fd_ {c:UInt8}:a3_ c=true↔c=48:=by unfold a3_;simp
theorem C4_ (D:List Nat) (S:Nat):∀a:List UInt8,a.all bg_=true->(∀(i:Nat) (h:i<a.length),atD D (S+i)=e4_ (a[a.length-1-i]'(by omega))) ->
    max (mm_ D S (S+a.length)) (S+1)=S+max 1 (a.dropWhile a3_).length:=by
 intro a;induction a with
 | nil=>intro _ _;have:=Cy_ D S (S+0);simp at this ⊢;omega
 | cons c a g=>
  intro d f;rw[List.all_cons,Bool.and_eq_true]at d;have h0:=f a.length (by simp);have h0:atD D (S+a.length)=e4_ c:=by rw[h0];simp
  rw[show S+(c::a).length=(S+a.length)+1 by simp;omega];unfold mm_;rw[h0,List.dropWhile_cons];have hz:=ll_ d.1;by_cases b:c=48
  ·rw[if_pos (fd_.2 b)]
   cases a with
   | nil=>
    rw[if_neg (by simp)];simp
   | cons e a=>
    rw[if_pos ⟨by simp,hz.2 b⟩];refine g d.2 λi h=>?_;rw[f i (by simp at h ⊢;omega)];congr 1
    rw[List.getElem_cons];rw[dif_neg (by simp at h ⊢;omega)];congr 1
    simp at h ⊢;omega
  ·rw[if_neg (λe=>b (hz.1 e.2)),if_neg (λe=>b (fd_.1 e))];simp;omega
theorem G6_ (D:List Nat) (S:Nat):∀(r:List UInt8) (k:Nat),r.all bg_=true->k+r.length=S->(∀(i:Nat) (h:i<r.length),atD D (k+i)=e4_ r[i]) ->
    sf_ D S r.length k=S-(r.dropWhile a3_).length:=by
 intro r;induction r with
 | nil=>intro k _ d _;simp[sf_]at d ⊢;omega
 | cons c r g=>
  intro k b d f;rw[List.all_cons,Bool.and_eq_true]at b;have h0:atD D k=e4_ c:=f 0 (by simp);have hz:=ll_ b.1;show sf_ D S (r.length+1) k=_;unfold sf_;rw[h0,List.dropWhile_cons];simp only[List.length_cons]at d;by_cases a:c=48
  ·rw[if_pos (fd_.2 a),if_pos ⟨by omega,hz.2 a⟩];refine g (k+1) b.2 (by omega) λi h=>?_;have:=f (i+1) (by simp;omega);rw[show k+(i+1)=k+1+i by omega]at this;rw[this];rfl
  ·rw[if_neg (λe=>a (hz.1 e.2)),if_neg (λe=>a (fd_.1 e))];simp;omega
theorem t7_ (D:List Nat) (lo:Nat):∀a:List UInt8,a.all bg_=true->(∀(i:Nat) (h:i<a.length),atD D (lo+i)=e4_ (a[a.length-1-i]'(by omega)))->e3_ D (lo+a.length) lo=a:=by
 intro a d c;unfold e3_;rw[show lo+a.length-lo=a.length by omega];refine List.ext_getElem (by simp) λi h1 b=>?_;simp only[List.getElem_map,List.getElem_range];rw[show lo+a.length-1-i=lo+(a.length-1-i) by omega,c _ (by omega)];have e:a[a.length-1-(a.length-1-i)]'(by omega)=a[i]:=by congr 1;omega
 rw[e];exact t4_ (List.all_eq_true.1 d _ (List.getElem_mem b))
theorem gb_ (p:UInt8->Bool) (a:List UInt8):a.dropWhile p=a.drop (a.length-(a.dropWhile p).length):=by
 induction a with
 | nil=>rfl
 | cons c a b=>
  rw[List.dropWhile_cons];by_cases h:p c=true
  ·rw[if_pos h];have:(a.dropWhile p).length<=a.length:=by rw[b];simp
   rw[show (c::a).length-(a.dropWhile p).length=(a.length-(a.dropWhile p).length)+1 by simp;omega];exact b
  ·rw[if_neg h];simp
theorem C5_ {a:List UInt8} (b:a.all bg_=true):a.all a3_=(a.map e4_).all (· == 0):=by
 induction a with
 | nil=>rfl
 | cons c a d=>
  rw[List.all_cons,Bool.and_eq_true]at b;rw[List.map_cons,List.all_cons,List.all_cons,d b.2];congr 1
  have hz:=ll_ b.1;rw[Bool.eq_iff_iff,fd_,beq_iff_eq];exact hz.symm
theorem qu_ (g:Bool) (a b:List UInt8) (y:e5_ a=true) (hb:b.all bg_=true) :
    ((⟨(cy_ g (a++b) b.length).1.toArray⟩:ByteArray),(cy_ g (a++b) b.length).2)=(cond (ee_ (ci_ (a++b)) b.length) ⟨#[]⟩ (n7_ g (ci_ (a++b)) b.length),cond (ee_ (ci_ (a++b)) b.length) 2 0):=by
 obtain⟨r,k⟩:a≠[]/\a.all bg_=true:=by unfold e5_ at y;rw[Bool.and_eq_true]at y;exact⟨by rintro rfl;simp at y,y.2⟩
 have O:0<a.length:=List.length_pos_iff.2 r;have s:js_ (a++b) b.length=a++b:=by unfold js_;rw[if_neg (by simp;omega)]
 have q:(a++b).length-b.length=a.length:=by simp
 have T:eu_ (a++b) b.length=a.dropWhile a3_:=by unfold eu_;rw[s,q];simp only[List.take_left'];rfl
 have R:hz_ (a++b) b.length=(b.reverse.dropWhile a3_).reverse:=by unfold hz_;rw[s,q];simp only[List.drop_left'];rfl
 have M:∀(i:Nat) (h:i<a.length),atD (ci_ (a++b)) (b.length+i)=e4_ (a[a.length-1-i]'(by omega)):=λi h=>Lb_ a b h;have I:∀(i:Nat) (h:i<b.length),atD (ci_ (a++b)) i=e4_ (b[b.length-1-i]'(by omega)):=λi h=>Lc_ a b h;have j:mn_ (ci_ (a++b)) b.length=b.length+max 1 (a.dropWhile a3_).length:=by unfold mn_;rw[mp_,show (a++b).length=b.length+a.length by simp;omega];exact C4_ _ _ a k M
 have o:n6_ (ci_ (a++b)) b.length=b.length-(b.reverse.dropWhile a3_).length:=by
  unfold n6_
  have:=G6_ (ci_ (a++b)) b.length b.reverse 0 (by rw[List.all_reverse];exact hb) (by simp) (λi h=>by
   rw[Nat.zero_add,I i (by simpa using h)];congr 1
   rw[List.getElem_reverse])
  simpa using this
 have V:(b.reverse.dropWhile a3_).length<=b.length:=by rw[gb_];simp
 have U:(a.dropWhile a3_).length<=a.length:=by rw[gb_];simp
 have D:ee_ (ci_ (a++b)) b.length=decide (40<(a.dropWhile a3_).length\/20<(b.reverse.dropWhile a3_).length):=by unfold ee_;rw[j,o,Bool.eq_iff_iff,Bool.or_eq_true,decide_eq_true_iff,decide_eq_true_iff,decide_eq_true_iff];omega
 have z:ml_ (ci_ (a++b))=(decide (a.dropWhile a3_=[])&&decide (b.reverse.dropWhile a3_=[])):=by unfold ml_ ci_;rw[List.all_reverse,<-C5_ (by rw[List.all_append,k,hb];rfl),List.all_append,Bool.eq_iff_iff,Bool.and_eq_true,Bool.and_eq_true,decide_eq_true_iff,decide_eq_true_iff,cd_,cd_,List.all_reverse]
 have x:e3_ (ci_ (a++b)) (b.length+max 1 (a.dropWhile a3_).length) b.length=if a.dropWhile a3_=[] then [48] else a.dropWhile a3_:=by
  have key:∀c:List UInt8,(∃e,a=e++c)->e3_ (ci_ (a++b)) (b.length+c.length) b.length=c:=λc E=>by
   obtain⟨e,m⟩:=E;refine t7_ _ _ c ?_ λi h=>?_
   ·rw[m,List.all_append,Bool.and_eq_true]at k;exact k.2
   ·rw[M i (by rw[m];simp;omega)];congr 1
    subst m;rw[List.getElem_append_right (by simp;omega)];congr 1
    simp;omega
  by_cases p:a.dropWhile a3_=[]
  ·rw[if_pos p,p];have J:=(cd_ _ _).1 p;obtain⟨e,c,m⟩:∃e c,a=e++[c]:=⟨a.dropLast,a.getLast r,(List.dropLast_concat_getLast r).symm⟩;have E:c=48:=fd_.1 (List.all_eq_true.1 J c (by rw[m];simp));have:=key [c] ⟨e,m⟩;rw[E]at this;exact this
  ·rw[if_neg p];have P:=List.length_pos_iff.2 p;rw[show max 1 (a.dropWhile a3_).length=(a.dropWhile a3_).length by omega];exact key _ ⟨a.takeWhile a3_,List.takeWhile_append_dropWhile.symm⟩
 have t:e3_ (ci_ (a++b)) b.length (b.length-(b.reverse.dropWhile a3_).length)=(b.reverse.dropWhile a3_).reverse:=by
  obtain⟨c,e,C,B⟩:∃c e,b=c++e/\c=(b.reverse.dropWhile a3_).reverse:=⟨(b.reverse.dropWhile a3_).reverse,(b.reverse.takeWhile a3_).reverse,by rw[<-List.reverse_append,List.takeWhile_append_dropWhile,List.reverse_reverse],rfl⟩;have N:(b.reverse.dropWhile a3_).length=c.length:=by rw[B];simp
  rw[<-B,N];have S:b.length=c.length+e.length:=by rw[C];simp
  have:=t7_ (ci_ (a++b)) (b.length-c.length) c (by rw[C,List.all_append,Bool.and_eq_true]at hb;exact hb.1) (λi h=>by
   rw[I _ (by omega)];congr 1
   have:b[b.length-1-(b.length-c.length+i)]'(by omega)=(c++e)[b.length-1-(b.length-c.length+i)]'(by simp;omega):=by congr 1
   rw[this,List.getElem_append_left (by omega)];congr 1
   omega)
  rwa [show b.length-c.length+c.length=b.length by omega]at this
 rw[D];unfold cy_;rw[T,R];simp only[List.length_reverse,List.reverse_eq_nil_iff];by_cases h1:40<(a.dropWhile a3_).length\/20<(b.reverse.dropWhile a3_).length
 ·rw[if_pos h1,decide_eq_true h1];rfl
 ·rw[if_neg h1,decide_eq_false h1];unfold n7_;rw[z,j,o,x,t]
  have G:decide (b.length-(b.reverse.dropWhile a3_).length=b.length)=decide (b.reverse.dropWhile a3_=[]):=by
   rw[decide_eq_decide];constructor
   ·intro h;by_cases L:b.length=0
    ·have:b=[]:=List.eq_nil_of_length_eq_zero L;subst this;rfl
    ·exact List.eq_nil_of_length_eq_zero (by omega)
   ·intro h;rw[h];rfl
  rw[G];by_cases d:a.dropWhile a3_=[]<;>by_cases f:b.reverse.dropWhile a3_=[]
  ·rw[if_pos ⟨d,f⟩];simp[d,f]
  ·rw[if_neg (λh=>f h.2)]
   cases g<;>simp[d,f]
  ·rw[if_neg (λh=>d h.1)]
   cases g<;>simp[d,f]
  ·rw[if_neg (λh=>d h.1)]
   cases g<;>simp[d,f]
def jl_ (s:ByteArray):List UInt8×Int:=
 let c:=Lib.cut (cz_ s).data.toList [46]
 if e5_ c.1=true/\(c.2.2=true->e5_ c.2.1=true) then cy_ (dx_ s) (c.1++c.2.1) c.2.1.length else ([],6)
theorem qv_ (s:ByteArray):((⟨(jl_ s).1.toArray⟩:ByteArray),(jl_ s).2)=fk_ s:=by
 unfold jl_ fk_ jr_;have o:=a8_ (cz_ s);generalize hl:(cz_ s).data.toList=l at o;rw[<-o];simp only;rcases qt_ l with h | ⟨a,b,h,p⟩
 ·rw[C2_ h,z1_ l h]
  cases c:l.all bg_
  ·rw[if_neg (by intro e;have:=e.1;unfold e5_ at this;rw[c]at this;simp at this)];rfl
  ·simp only[cond_true];by_cases h0:l=[]
   ·subst h0;rfl
   ·have r:e5_ l=true:=by unfold e5_;rw[c];cases l<;>simp_all
    rw[if_pos ⟨r,λe=>by cases e⟩];have t:=List.length_pos_iff.2 h0;rw[show (decide (l.length=0) || (none:Option Nat)==some 0 || (none:Option Nat)==some (l.length-1))=false by rw[decide_eq_false (by omega)];rfl];have:=qu_ (dx_ s) l [] r rfl;rw[si_ (z2_ c)];simp only[List.append_nil,List.length_nil]at this ⊢;exact this
 ·rw[h,sh_ p,oa_ a b p];by_cases c:(a.all bg_&&b.all bg_)=true
  ·obtain⟨k,f⟩:=Bool.and_eq_true_iff.1 c;rw[k,f];simp only[Bool.and_self,cond_true,Nat.zero_add];have i:(decide ((a++46::b).length=0) || (some a.length==some 0) || (some a.length==some ((a++46::b).length-1)))=(decide (a=[]) || decide (b=[])):=by rw[Bool.eq_iff_iff];simp only[Bool.or_eq_true,decide_eq_true_iff,List.length_append,List.length_cons,beq_iff_eq,Option.some.injEq,<-List.length_eq_zero_iff];omega
   rw[i];by_cases g:a=[]
   ·rw[if_neg (by rintro⟨e,_⟩;subst g;cases e)];rw[decide_eq_true g];rfl
   ·by_cases j:b=[]
    ·rw[if_neg (by rintro⟨_,e⟩;subst j;exact absurd (e trivial) (by decide))];simp[j]
    ·have m:e5_ a=true:=by unfold e5_;rw[k];cases a<;>simp_all
     have q:e5_ b=true:=by unfold e5_;rw[f];cases b<;>simp_all
     rw[if_pos ⟨m,λ_=>q⟩,decide_eq_false g,decide_eq_false j];simp only[Bool.or_self,cond_false];rw[t6_ k f];have d:n5_ (a++46::b).length (some a.length)=b.length:=by unfold n5_;simp
     rw[d];exact qu_ (dx_ s) a b m f
  ·have c:(a.all bg_&&b.all bg_)=false:=by simpa using c
   rw[c];simp only[cond_false];rw[if_neg];rintro⟨i,d⟩;have d:=d trivial;unfold e5_ at i d;rw[Bool.and_eq_true]at i d;rw[i.2,d.2]at c
   cases c
end
end Go.Proofs.YtefhfadjajcmkaaGreatDoor
