/- The numbers of two decimals. -/
import Derived.Test.YtefhfadjajcmkaaGreatDoorJ2
import Derived.Test.YtefhfadjajcmkaaGreatDoorJ3
import Derived.Test.YtefhfadjajcmkaaGreatDoorSH
import Derived.Lib.AppendIntMem
import Derived.Deep.MidRow
import Derived.Laws.Tables
import Derived.Lib.AtoiErrMem
set_option linter.unusedVariables false
set_option linter.unusedSimpArgs false
set_option maxRecDepth 100000
set_option maxHeartbeats 64000000
namespace Go.Proofs.YtefhfadjajcmkaaGreatDoor
open Go.Lib (cell_of_heap)
section
open Go Go.RowKit
abbrev bj_ (α : Type):=World->(Nat->Prop) -> α -> Array Value->Prop
structure bj_.Good {α : Type} (R:bj_ α):Prop where
 keep:∀{w w':World} {F:Nat->Prop} {x:α} {c:Array Value},R w F x c->(∀p:Addr,F p.block->w'.cell? p=w.cell? p)->R w' F x c
 mono:∀{w:World} {F F':Nat->Prop} {x:α} {c:Array Value},R w F x c->(∀g,F g->F' g)->R w F' x c
variable {α : Type} {R:bj_ α} {w w':World} {F F' G:Nat->Prop} {l:List α} {A:Option Addr} {n sz:Nat} {s:Value} {E:Nat}
def SRd (sz:Nat) (R:bj_ α) (w:World) (F:Nat->Prop) (l:List α) (A:Option Addr) (n:Nat):Prop:=
 n=l.length/\(0<n->∃ad,A=some ad/\F ad.block/\∀i x,l[i]?=some x->∃c:Array Value,c.size=sz/\(∀j,j<sz->w.cell? (ad.add (i*sz+j))=c[j]?)/\R w F x c)
def SlR (sz:Nat) (R:bj_ α) (w:World) (F:Nat->Prop) (l:List α) (s:Value):Prop:=
 ∃A b,s = .slice A l.length b/\l.length<=b/\SRd sz R w F l A l.length
theorem by_ {l:List α} {i:Nat} {x:α} (h:l[i]?=some x):i<l.length:=(List.getElem?_eq_some_iff.1 h).1
theorem SRd.keep (f:R.Good) (h:SRd sz R w F l A n) (b:∀p:Addr,F p.block->w'.cell? p=w.cell? p):SRd sz R w' F l A n:=
 ⟨h.1,λm=>by
  obtain⟨ad,e,d,q⟩:=h.2 m;refine⟨ad,e,d,λi x r=>?_⟩;obtain⟨c,h1,h2,k⟩:=q i x r;exact⟨c,h1,λj t=>(b _ (by rw[block_of_add];exact d)).trans (h2 j t),f.keep k b⟩⟩
theorem SRd.mono (d:R.Good) (h:SRd sz R w F l A n) (b:∀g,F g->F' g):SRd sz R w F' l A n:=
 ⟨h.1,λk=>by
  obtain⟨ad,e,j,m⟩:=h.2 k;refine⟨ad,e,b _ j,λi x p=>?_⟩;obtain⟨c,h1,h2,f⟩:=m i x p;exact⟨c,h1,h2,d.mono f b⟩⟩
theorem SRd.under {B:Nat} (c:R.Good) (h:SRd sz R w F l A n) (hb:Below B w w') (b:∀g,F g->g<B):SRd sz R w' F l A n:=h.keep c λ_ d=>hb.cell (b _ d)
theorem SRd.drewN (b:R.Good) (h:SRd sz R w F l A n) (m:Nat):SRd sz R (w.drewN m) F l A n:=h.keep b λ_ _=>rfl
theorem SRd.nil (sz:Nat) (R:bj_ α) (w:World) (F:Nat->Prop) (A:Option Addr):SRd sz R w F [] A 0:=⟨rfl,λh=>absurd h (by omega)⟩
theorem SlR.nil (sz:Nat) (R:bj_ α) (w:World) (F:Nat->Prop):SlR sz R w F [] (.slice none 0 0):=⟨none,0,rfl,Nat.le_refl _,SRd.nil ..⟩
theorem SlR.keep (d:R.Good) (h:SlR sz R w F l s) (c:∀p:Addr,F p.block->w'.cell? p=w.cell? p):SlR sz R w' F l s:=by obtain⟨A,b,e,f,h⟩:=h;exact⟨A,b,e,f,h.keep d c⟩
theorem SlR.mono (d:R.Good) (h:SlR sz R w F l s) (c:∀g,F g->F' g):SlR sz R w F' l s:=by obtain⟨A,b,e,f,h⟩:=h;exact⟨A,b,e,f,h.mono d c⟩
theorem SlR.under {B:Nat} (c:R.Good) (h:SlR sz R w F l s) (hb:Below B w w') (b:∀g,F g->g<B):SlR sz R w' F l s:=h.keep c λ_ d=>hb.cell (b _ d)
theorem SlR.turn {S:Nat->Prop} (d:R.Good) (h:SlR sz R w F l s) (ht:Turn S w w') (c:∀g,F g->g<w.heap.size) (e:∀g,F g->¬S g):SlR sz R w' F l s:=h.keep d λ_ b=>ht.cell (c _ b) (e _ b)
theorem SRd.at_ (h:SRd sz R w F l A n) {i:Nat} {x:α} (b:l[i]?=some x):∃ad c,A=some ad/\F ad.block/\c.size=sz/\(∀j,j<sz->w.cell? (ad.add (i*sz+j))=c[j]?)/\R w F x c:=by have hi:=by_ b;obtain⟨ad,e,d,k⟩:=h.2 (by rw[h.1];omega);obtain⟨c,h1,h2,f⟩:=k i x b;exact⟨ad,c,e,d,h1,h2,f⟩
def N_ (cs:Nat->Array Value) (n:Nat):List Value:=(List.range n).flatMap λi=>(cs i).toList
theorem cy_ (cs:Nat->Array Value) (n:Nat):N_ cs (n+1)=N_ cs n++(cs n).toList:=by unfold N_;rw[List.range_succ];simp
theorem fh_ {cs ds:Nat->Array Value} {n:Nat} (h:∀i,i<n->cs i=ds i):N_ cs n=N_ ds n:=by unfold N_;rw[List.flatMap_def,List.flatMap_def,List.map_congr_left λi hi=>by rw[h i (List.mem_range.1 hi)]]
theorem ad_ {cs:Nat->Array Value} {n sz:Nat} (h:∀i,i<n->(cs i).size=sz):(N_ cs n).length=n*sz:=by
 induction n with
 | zero=>simp[N_]
 | succ n b=>rw[cy_,List.length_append,b (λi hi=>h i (by omega)),Array.length_toList,h n (by omega),Nat.succ_mul]
theorem bt_ {cs:Nat->Array Value} {n i j sz:Nat} (h:∀i,i<n->(cs i).size=sz) (hi:i<n) (e:j<sz):(N_ cs n)[i*sz+j]?=(cs i)[j]?:=by
 induction n with
 | zero=>omega
 | succ n d=>
  have c:=ad_ (cs:=cs) (n:=n) (sz:=sz) (λi hi=>h i (by omega));rw[cy_];by_cases b:i=n
  ·subst b;rw[List.getElem?_append_right (by omega),c,Nat.add_sub_cancel_left];simp
  ·have h1:(i+1)*sz<=n*sz:=Nat.mul_le_mul_right sz (by omega);rw[Nat.succ_mul]at h1;rw[List.getElem?_append_left (by omega)];exact d (λi hi=>h i (by omega)) (by omega)
def B_ (E sz:Nat) (R:bj_ α) (w:World) (F:Nat->Prop) (l:List α) (s:Value):Prop:=
 ∃cs:Nat->Array Value,w.ownsRow 0 E sz s l.length (N_ cs l.length)/\(∀i,i<l.length->(cs i).size=sz)/\(∀g,s.ownBlock=some g->F g) /\
  ∀i x,l[i]?=some x->R w (λb=>F b/\s.ownBlock≠some b) x (cs i)
theorem B_.form (h:B_ E sz R w F l s):∃A c,s = .slice A l.length c:=by obtain⟨cs,b,_⟩:=h;exact wt_ b
theorem B_.nil (E sz:Nat) (R:bj_ α) (w:World) (F:Nat->Prop):B_ E sz R w F [] (.slice none 0 0):=
 ⟨λ_=>#[],World.ownsRow_nil _ _ _ _,(λ_ hi=>absurd hi (Nat.not_lt_zero _)),(λg b=>by cases b),(λi x c=>by simp at c)⟩
theorem B_.turn {S:Nat->Prop} (j:R.Good) (h:B_ E sz R w F l s) (ht:Turn S w w') (q:∀b,F b->b<w.heap.size) (f:∀b,F b->¬S b):B_ E sz R w' F l s:=by obtain⟨cs,c,t,e,r⟩:=h;exact⟨cs,ht.owns c (λg k=>f g (e g k)),t,e,λi x m=>j.keep (r i x m) λp d=>ht.cell (q _ d.1) (f _ d.1)⟩
theorem B_.mono (j:R.Good) (h:B_ E sz R w F l s) (f:∀b,F b->F' b):B_ E sz R w F' l s:=by obtain⟨cs,d,p,e,m⟩:=h;exact⟨cs,d,p,λg c=>f g (e g c),λi x k=>j.mono (m i x k) λg c=>⟨f g c.1,c.2⟩⟩
theorem q4_ {c e d:Nat} {A:Option Addr} {n b:Nat} {xs:List Value} (h:w.ownsRow c e d (.slice A n b) n xs):n<=b:=by
 rcases h.2 with⟨h0,h1⟩ | ⟨g,i,f,h0,_,_,h1,_⟩
 ·injection h0 with _ h2 h3;omega
 ·injection h0 with _ _ h3;omega
theorem B_.rd (m:R.Good) (h:B_ E sz R w F l s):SlR sz R w F l s:=by
 obtain⟨A,e,rfl⟩:=h.form;obtain⟨cs,b,k,r,t⟩:=h;refine⟨A,e,rfl,q4_ b,rfl,λp=>?_⟩;obtain⟨g,v,c,_,_⟩:=b.form p;injection c with c _ hcp;subst c;subst hcp;refine⟨⟨g,0,none⟩,rfl,r g rfl,λi x d=>?_⟩;have hi:=by_ d;refine⟨cs i,k i hi,λj q=>?_,m.mono (t i x d) λ_ h=>h.1⟩;have f:i*sz+j<l.length*sz:=by have h1:(i+1)*sz<=l.length*sz:=Nat.mul_le_mul_right sz (by omega);rw[Nat.succ_mul]at h1;omega
 have h1:=b.cellAt (i*sz+j) f;rw[bt_ k hi q]at h1;rw[<-h1];unfold Addr.add;split<;>simp_all
theorem B_.snoc {w5 w6:World} {x:α} {c:Array Value} {g4 c4:Nat} (k:R.Good) (h:B_ E sz R w5 F l s) (J:R w5 G x c) (L:c.size=sz)
    (m:∀b,G b->s.ownBlock≠some b) (r:∀b,F b->b<w5.heap.size) (q:∀b,G b->b<w5.heap.size)
    (N:∀cs:Nat->Array Value,w5.ownsRow 0 E sz s l.length (N_ cs l.length)->w6.ownsRow 0 E sz (.slice (some ⟨g4,0,none⟩) (l.length+1) c4) (l.length+1) (N_ cs l.length++c.toList)) (B:w5.grownBy w6 s.ownBlock) (z:s.ownBlock=some g4\/w5.heap.size<=g4) :
    B_ E sz R w6 (λb=>F b\/G b\/b=g4) (l++[x]) (.slice (some ⟨g4,0,none⟩) (l.length+1) c4):=by
 obtain⟨cs,t,M,T,O⟩:=h;have v:(l++[x]).length=l.length+1:=by simp
 have I:∀i,i<l.length->(λi=>if i<l.length then cs i else c) i=cs i:=λi hi=>if_pos hi
 have D:∀b,F b->s.ownBlock≠some b->b≠g4:=λb hb h2 e=>by
  rcases z with h | h
  ·exact h2 (by rw[h,e])
  ·have:=r b hb;omega
 have C:∀b,G b->b≠g4:=λb hb e=>by
  rcases z with h | h
  ·exact m b hb (by rw[h,e])
  ·have:=q b hb;omega
 refine⟨λi=>if i<l.length then cs i else c,?_,λi hi=>?_,λg j=>?_,λi y f=>?_⟩
 ·rw[v,cy_,fh_ I,if_neg (Nat.lt_irrefl _)];exact N cs t
 ·by_cases h:i<l.length
  ·simp only[if_pos h];exact M i h
  ·simp only[if_neg h];exact L
 ·injection j with j;exact .inr (.inr j.symm)
 ·by_cases h:i<l.length
  ·simp only[if_pos h];rw[List.getElem?_append_left h]at f;refine k.mono (k.keep (O i y f) (w':=w6) λp d=>(Turn.of_grown B).cell (r _ d.1) λe=>d.2 e.symm) λb hb=>⟨.inl hb.1,λe=>?_⟩;injection e with e;exact D b hb.1 hb.2 e.symm
  ·simp only[if_neg h];have hi:i=l.length:=by have:=by_ f;omega
   subst hi;simp at f;subst f;refine k.mono (k.keep J (w':=w6) λp d=>(Turn.of_grown B).cell (q _ d) λe=>m _ d e.symm) λb hb=>⟨.inr (.inl hb),λe=>?_⟩;injection e with e;exact C b hb e.symm
def TxR:bj_ ByteArray:=λ_ _ t c=>c=#[.string t]
theorem TxR.good:TxR.Good:=⟨λh _=>h,λh _=>h⟩
def IxR:bj_ Int:=λ_ _ t c=>c=#[.int .i64 t]
theorem IxR.good:IxR.Good:=⟨λh _=>h,λh _=>h⟩
structure C_ where
 key:ByteArray
 v:h_
structure i_ where
 id:Int
 labels:List ByteArray
 props:List C_
structure m_ where
 id:Int
 src:Int
 dst:Int
 type:ByteArray
 props:List C_
structure y_ where
 nodes:List i_
 edges:List m_
def cq_ (p:C_) (s:Value):Array Value:=#[.string p.key,.int .i64 p.v.kind,.bool p.v.truth,.int .i64 p.v.num,.string p.v.text,.string p.v.extra,s]
def PaR:bj_ C_:=λw F p c=>∃s,c=cq_ p s/\VRd w F p.v (.agg (c_ p.v s))
theorem PaR.good:PaR.Good:=⟨fun⟨s,e,h⟩ hk=>⟨s,e,h.keep hk⟩,fun⟨s,e,h⟩ hF=>⟨s,e,h.mono hF⟩⟩
def NoR:bj_ i_:=λw F n c=>∃L P,c=#[.int .i64 n.id,L,P]/\SlR 1 TxR w F n.labels L/\SlR 7 PaR w F n.props P
theorem NoR.good:NoR.Good:=⟨fun⟨L,P,e,h1,h2⟩ hk=>⟨L,P,e,h1.keep TxR.good hk,h2.keep PaR.good hk⟩,fun⟨L,P,e,h1,h2⟩ hF=>⟨L,P,e,h1.mono TxR.good hF,h2.mono PaR.good hF⟩⟩
def EdR:bj_ m_:=λw F e c=>∃P,c=#[.int .i64 e.id,.int .i64 e.src,.int .i64 e.dst,.string e.type,P]/\SlR 7 PaR w F e.props P
theorem EdR.good:EdR.Good:=⟨fun⟨P,e,h⟩ hk=>⟨P,e,h.keep PaR.good hk⟩,fun⟨P,e,h⟩ hF=>⟨P,e,h.mono PaR.good hF⟩⟩
def GrR (w:World) (F:Nat->Prop) (g:y_) (u:Value):Prop:=∃N E,u = .agg #[N,E]/\SlR 3 NoR w F g.nodes N/\SlR 5 EdR w F g.edges E
section
variable {w w':World} {F F':Nat->Prop} {g:y_} {u:Value}
theorem GrR.keep (h:GrR w F g u) (b:∀p:Addr,F p.block->w'.cell? p=w.cell? p):GrR w' F g u:=by obtain⟨N,E,e,h1,h2⟩:=h;exact⟨N,E,e,h1.keep NoR.good b,h2.keep EdR.good b⟩
theorem GrR.mono (h:GrR w F g u) (b:∀g,F g->F' g):GrR w F' g u:=by obtain⟨N,E,e,h1,h2⟩:=h;exact⟨N,E,e,h1.mono NoR.good b,h2.mono EdR.good b⟩
theorem GrR.under {B:Nat} (h:GrR w F g u) (hb:Below B w w') (b:∀g,F g->g<B):GrR w' F g u:=h.keep λ_ c=>hb.cell (b _ c)
end
end
section
open Go
section
open Classical
variable {α : Type} {o:α -> α -> Int}
noncomputable def al_ (l:List α):List α:=l.foldl (λD v=>if v∈D then D else D++[v]) []
theorem d3_ (l:List α) (v:α):al_ (l++[v])=if v∈al_ l then al_ l else al_ l++[v]:=by unfold al_;rw[List.foldl_append];rfl
theorem e0_ (l:List α):∀n x,x∈al_ (l.take n)↔x∈l.take n:=by
 intro n;induction n with
 | zero=>exact λx=>Iff.rfl
 | succ n b=>
  intro x;by_cases d:n<l.length
  ·rw[List.take_succ_eq_append_getElem d,d3_];by_cases c:l[n]∈al_ (l.take n)
   ·rw[if_pos c,b,List.mem_append,List.mem_singleton];exact⟨.inl,λh=>h.elim id λh=>by rw[h];exact (b _).1 c⟩
   ·rw[if_neg c,List.mem_append,List.mem_append,b]
  ·rw[List.take_of_length_le (by omega)];rw[List.take_of_length_le (by omega)]at b;exact b x
theorem ul_ (h:fz_ o) {l:List α} (p:l.Pairwise λa b=>¬o b a<0) (m:∀a,a∈l->∀b,b∈l->o a b=0->a=b):∀n,i5_ o (al_ (l.take n)):=by
 intro n;induction n with
 | zero=>exact List.Pairwise.nil
 | succ n c=>
  by_cases e:n<l.length
  ·rw[List.take_succ_eq_append_getElem e,d3_];by_cases f:l[n]∈al_ (l.take n)
   ·rw[if_pos f];exact c
   ·rw[if_neg f];refine List.pairwise_append.2 ⟨c,List.pairwise_singleton _ _,λa j b hb=>?_⟩;rw[List.mem_singleton]at hb;subst hb;have k:=(e0_ l n a).1 j;obtain⟨i,hi,rfl⟩:=List.mem_take_iff_getElem.1 k;have h1:=List.pairwise_iff_getElem.1 p i n (by omega) e (by omega);have h2:=h.anti l[i] l[n];rcases Int.lt_or_eq_of_le (show o l[i] l[n]<=0 by omega) with d | d
    ·exact d
    ·have:=m _ (List.getElem_mem _) _ (List.getElem_mem e) d;rw[this]at j;exact absurd j f
  ·rw[List.take_of_length_le (by omega)];rw[List.take_of_length_le (by omega)]at c;exact c
theorem um_ (h:fz_ o) {l m:List α} (c:m.Perm l) (j:m.Pairwise λa b=>¬o b a<0) (d:∀a,a∈l->∀b,b∈l->o a b=0->a=b):al_ m=ba_ o l:=by have f:=d1_ h d;have i:=ul_ h j (λa k b hb=>d a (c.mem_iff.1 k) b (c.mem_iff.1 hb)) m.length;have e:=e0_ m m.length;rw[List.take_length]at i e;exact f0_ h i f.1 λx=>by rw[f.2 x,e x];exact c.mem_iff
end
theorem i7_ {K:Type} [DecidableEq K] (a:K) (r:List K) (x:K):place (a::r) x=if a=x then 0 else place r x+1:=by
 unfold place;rw[List.idxOf_cons];by_cases e:a=x
 ·simp[e]
 ·rw[if_neg e,show (a==x)=false from beq_eq_false_iff_ne.2 e];rfl
def txV (s:ByteArray):h_:=.mk 4 false 0 s ⟨#[]⟩ []
def sV:ByteArray:=⟨#[118]⟩
def sX:ByteArray:=⟨#[120]⟩
def En_:ByteArray:=⟨#[73,114,105]⟩
def om_:ByteArray:=⟨#[66,108,97,110,107]⟩
def Eo_:ByteArray:=⟨#[76,105,116]⟩
def Ep_:ByteArray:=⟨#[86,97,108]⟩
def E_ (b:Int) (v:h_):i_:=
 if v.kind=8 then ⟨b,[En_],[⟨sV,txV v.text⟩]⟩ else if v.kind=9 then ⟨b,[om_],[⟨sV,txV v.text⟩]⟩ else if v.kind=10 then ⟨b,[Eo_],[⟨sV,txV v.text⟩,⟨sX,txV v.extra⟩]⟩ else ⟨b,[Ep_],[⟨sV,v⟩]⟩
def dl_ (T:List d_):List h_:=T.flatMap λt=>[t.s,t.o]
def R_ (T:List d_):List h_:=ba_ G_ (dl_ T)
noncomputable def bf_ (D:List h_) (v:h_):Int:=open Classical in ((place D v:Nat):Int)
noncomputable def af_ (T:List d_):y_ where
 nodes:=(R_ T).mapIdx λi v=>E_ (i:Nat) v
 edges:=T.mapIdx λi t=>⟨(i:Nat),bf_ (R_ T) t.s,bf_ (R_ T) t.o,t.p.text,[]⟩
end
section
open Go Go.RowKit Go.Sort
def as_ (w : World) : Prop := Lib.TabIs Tryz.prog w "internal/strconv.uint64pow10" .u64 Lib.pow10Tab
theorem e1_ (w:World) (k:Nat) (os:Array Obj):Below w.heap.size w (grow (w.drewN k) os):=
 ⟨rfl,rfl,rfl,by unfold grow;simp,λi hi=>by
  unfold grow;show (w.heap++os)[i]?=w.heap[i]?;exact Array.getElem?_append_left hi⟩
theorem w9_ (n:Int) (h0:-9223372036854775808<=n) (h1:n<=9223372036854775807) (w:World) (ht:as_ w) :
    Calls Tryz.prog 305 #[.int .i64 n,.int .i64 10] w λe w'=>e = .returned (.string ⟨(Lib.itoa n).toArray⟩)/\Below w.heap.size w w':=
 (Any.strconv_FormatInt_10 Tryz.laysM173 n h0 h1 w ht).mono λe w' ⟨h1,k,os,h2⟩=>⟨h1,by rw[h2];exact e1_ w k os⟩
theorem n_ {w w':World} (h:as_ w) (hb:Below w.heap.size w w'):as_ w':=Lib.tabBelow_of_tabIs h w' hb
theorem Aj_ (n:Int):br_ n=bK (Lib.itoa n++[46,48]):=rfl
theorem Eq_ {n:Int} (h0:-9223372036854775808<=n) (h1:n<=9223372036854775807):(Lib.itoa n).length<=21:=by
 rw[oh_,List.length_append];have h2:=(y4_ (u:=n.natAbs) (by omega)).2;by_cases h:n<0
 ·rw[decide_eq_true h];simp only[cond_true,List.length_singleton];omega
 ·rw[decide_eq_false h];simp only[cond_false,List.length_nil];omega
def Lu_ (n:Int) (w:World) (e:Ending) (w':World):Prop:=e = .returned (.string (br_ n))/\Below w.heap.size w w'
theorem Ak_ (n:Int) (h0:-9223372036854775808<=n) (h1:n<=9223372036854775807) (w:World) (ht:as_ w) :
    Calls Tryz.prog 266 #[.int .i64 n] w (Lu_ n w):=by
 have c:=q_ (w9_ n h0 h1 w ht)
 have b:∀W:World,(Op.stringOp .add (bK (Lib.itoa n)) ⟨#[46,48]⟩).run Tryz.prog W = .ok (.string (br_ n)) W:=λW=>by
  have e:br_ n=bK (Lib.itoa n)++(⟨#[46,48]⟩:ByteArray):=by rw[Aj_,<-cb_];rfl
  rw[e];exact run_string_add_sum W _ _ (by rw[bp_];have:=Eq_ h0 h1;show _+2<=_;omega)
 have f:(⟨(Lib.itoa n).toArray⟩:ByteArray)=bK (Lib.itoa n):=rfl;rw[f]at c;obtain⟨p,j⟩:=a_ (bK (Lib.itoa n));obtain⟨i,d⟩:=a_ (br_ n);have h:=q_ (show ∀w',Below w.heap.size w w'->Lu_ n w (.returned (.string i)) w' from λw' hb=>⟨by rw[d.o],hb⟩);rw[j.o]at c b;rw[d.o]at b;clear ht h0 h1 f;go_enter Tryz.func266,Tryz.ntmps266
 go_wp2_with fail;refine c.o.mono ?_;rintro e m ⟨rfl,hb⟩;have k:=q_ hb;clear hb;go_wp2_with fail;go_ret;exact h.o _ k.o
end
section
open Go Go.RowKit
structure V_ (p:Prop):Prop where
 o :p
section
variable {P:Program} {md:Region.Mode} {ops:Array Oper} {Q:Exit->Act->World->Prop} {S:World->Prop} {fuel:Nat} {listed:Array Bool} {a:Act} {w:World}
def o_ (P:Program) (ops:Array Oper) (i:Nat) (a:Act) (w:World) (v:Value):Prop:=
 match ops[i]? with
 | some o=>(execOp a.eval o).run P w = .ok (.value v) w
 | none=>False
def fr_ (P:Program) (ops:Array Oper) (i:Nat) (a:Act) (w:World) (K:Act->World->Prop) (Q:Exit->Act->World->Prop):Prop:=
 match ops[i]? with
 | some o=>Oper.wp P o a w K Q
 | none=>False
def b3_ (ops:Array Oper) (i:Nat) (a:Act):Option Bool:=ops[i]?.map λo=>Region.wanted o (yielded ops a.tmps)
theorem q5_ (i d:Nat) (v:Value) (e:ops[i]?.map (·.dst)=some (some d)) (b:b3_ ops i a=some true) (m:Region.noSelect ops=true) (j:Region.free md ops listed i=true) (p:(Region.ready md ops listed).contains i=true)
    (k:∀c a w,Q (.panic c) (a.put (some d) v) w->Q (.panic c) a w) (f:S w) (q:∀w,S w->o_ P ops i a w v)
    (h:S w->V_ (wpAnyH P md ops Q S fuel (listed.setIfInBounds i true) (a.put (some d) v) w)):V_ (wpAnyH P md ops Q S (fuel+1) listed a w):=by
 unfold b3_ at b
 cases ho:ops[i]? with
 | none=>rw[ho]at e;cases e
 | some o=>
  rw[ho]at e b;simp only[Option.map_some,Option.some.injEq]at e b;exact⟨wpAnyH_take ho m j p (λc a w h=>k c a w (by rw[<-e];exact h)) (.inl ⟨b,λw b=>by have:=q w b;unfold o_ at this;rw[ho]at this;exact this⟩) f (by rw[e];exact (h f).o)⟩
theorem Al_ (i:Nat) (j:Region.ready md ops listed=[i]) (b:b3_ ops i a=some true)
    (h:∀d:Act->World->Prop,Shut (∀a w,S w->(S w->V_ (wpAnyH P md ops Q S fuel (listed.setIfInBounds i true) a w))->d a w)->fr_ P ops i a w d Q):V_ (wpAnyH P md ops Q S (fuel+1) listed a w):=by
 unfold b3_ at b
 cases ho:ops[i]? with
 | none=>rw[ho]at b;cases b
 | some o=>
  rw[ho]at b;simp only[Option.map_some,Option.some.injEq]at b;refine⟨wpAnyH_ready j (by simp) (AllReadyH.cons ho (λK f=>?_) AllReadyH.nil)⟩;rw[if_pos b];have:=h K (λa w c e=>f.out a w c (λc=>(e c).o));unfold fr_ at this;rw[ho]at this;exact this
theorem b4_ (i j:Nat) (m:Region.ready md ops listed=[i,j]) (b:b3_ ops i a=some true) (c:b3_ ops j a=some true)
    (hi:∀e:Act->World->Prop,Shut (∀a w,S w->(S w->V_ (wpAnyH P md ops Q S fuel (listed.setIfInBounds i true) a w))->e a w)->fr_ P ops i a w e Q)
    (k:∀e:Act->World->Prop,Shut (∀a w,S w->(S w->V_ (wpAnyH P md ops Q S fuel (listed.setIfInBounds j true) a w))->e a w)->fr_ P ops j a w e Q):V_ (wpAnyH P md ops Q S (fuel+1) listed a w):=by
 unfold b3_ at b c
 cases hoi:ops[i]? with
 | none=>rw[hoi]at b;cases b
 | some o=>
  cases hoj:ops[j]? with
  | none=>rw[hoj]at c;cases c
  | some p=>
   rw[hoi]at b;rw[hoj]at c;simp only[Option.map_some,Option.some.injEq]at b c;refine⟨wpAnyH_ready m (by simp) (AllReadyH.cons hoi (λK h=>?_) (AllReadyH.cons hoj (λK h=>?_) AllReadyH.nil))⟩
   ·rw[if_pos b];have:=hi K (λa w d f=>h.out a w d (λd=>(f d).o));unfold fr_ at this;rw[hoi]at this;exact this
   ·rw[if_pos c];have:=k K (λa w d f=>h.out a w d (λd=>(f d).o));unfold fr_ at this;rw[hoj]at this;exact this
theorem aT {α : Type _} (l:List α) (i:Nat) (a:α):l.toArray.setIfInBounds i a=(l.set i a).toArray:=List.setIfInBounds_toArray ..
theorem aZ {α : Type _} (x:α) (l:List α) (a:α):(x::l).set 0 a=a::l:=List.set_cons_zero ..
theorem aS {α : Type _} (x:α) (l:List α) (n:Nat) (a:α):(x::l).set (n+1) a=x::l.set n a:=List.set_cons_succ ..
theorem J_ (i d:Nat) (v:Value) (m:S w) (q:∀w,S w->o_ P ops i a w v)
    (h:S w->V_ (wpAnyH P md ops Q S fuel (listed.setIfInBounds i true) (a.put (some d) v) w)) (e:ops[i]?.map (·.dst)=some (some d):=by kernel_rfl) (j:b3_ ops i a=some true:=by rfl) (k:Region.noSelect ops=true:=by kernel_rfl) (b:Region.free md ops listed i=true:=by kernel_rfl) (p:(Region.ready md ops listed).contains i=true:=by kernel_rfl)
    (f:∀c a w,Q (.panic c) (a.put (some d) v) w->Q (.panic c) a w:=by exact λ_ _ _ h=>h):V_ (wpAnyH P md ops Q S (fuel+1) listed a w):=q5_ i d v e j k b p f m q h
theorem v_ (i d:Nat) (v:Value) (m:S w)
    (h:S w->V_ (wpAnyH P md ops Q S fuel (listed.setIfInBounds i true) (a.put (some d) v) w)) (q:∀w,S w->o_ P ops i a w v:=by intro w r;unfold o_;go_simp) (e:ops[i]?.map (·.dst)=some (some d):=by kernel_rfl) (j:b3_ ops i a=some true:=by rfl) (k:Region.noSelect ops=true:=by kernel_rfl) (b:Region.free md ops listed i=true:=by kernel_rfl) (p:(Region.ready md ops listed).contains i=true:=by kernel_rfl)
    (f:∀c a w,Q (.panic c) (a.put (some d) v) w->Q (.panic c) a w:=by exact λ_ _ _ h=>h):V_ (wpAnyH P md ops Q S (fuel+1) listed a w):=q5_ i d v e j k b p f m q h
theorem tkC (i:Nat)
    (h:∀b:Act->World->Prop,Shut (∀a w,S w->(S w->V_ (wpAnyH P md ops Q S fuel (listed.setIfInBounds i true) a w))->b a w)->fr_ P ops i a w b Q) (d:Region.ready md ops listed=[i]:=by kernel_rfl) (c:b3_ ops i a=some true:=by rfl):V_ (wpAnyH P md ops Q S (fuel+1) listed a w):=Al_ i d c h
end
theorem gf_ {S:Nat->Prop} {a:World} (g:Nat) (d:a.heap.size<=g\/S g) (b:List Value):∀(o:Nat) {w:World},Turn S a w->Turn S a (w.setCells g o b):=by
 induction b with
 | nil=>intro o w h;exact h
 | cons v r c=>intro o w h;exact c (o+1) (h.setCell (p:=⟨g,o,none⟩) d v)
theorem gg_ {g:Nat} {T:TypeId} (i:List Value):∀(o:Nat) {w:World} {c:Array Value},w.heap[g]?=some (.cells c T (0,0)) ->
    ∃f:Array Value,(w.setCells g o i).heap[g]?=some (.cells f T (0,0))/\f.size=c.size/\∀j,f[j]?=if o<=j/\j<o+i.length/\j<c.size then i[j-o]? else c[j]?:=by
 induction i with
 | nil=>
  intro o w c h;refine⟨c,h,rfl,λj=>?_⟩;rw[if_neg (by simp;omega)]
 | cons v r p=>
  intro o w c h;obtain⟨f,h1,h2,k⟩:=p (o+1) (heap_setCell_same w g o c T v h);rw[Array.size_setIfInBounds]at h2;refine⟨f,h1,h2,λj=>?_⟩;rw[k j,Array.size_setIfInBounds,List.length_cons];by_cases e:j=o
  ·subst e;rw[if_neg (by omega),Array.getElem?_setIfInBounds,if_pos rfl];by_cases b:j<c.size
   ·rw[if_pos b,if_pos ⟨Nat.le_refl _,by omega,b⟩,Nat.sub_self];rfl
   ·rw[if_neg b,if_neg (by omega),Array.getElem?_eq_none (by omega)]
  ·by_cases d:o+1<=j/\j<o+1+r.length/\j<c.size
   ·rw[if_pos d,if_pos ⟨by omega,by omega,d.2.2⟩];obtain⟨t,ht⟩:∃t,j-o=t+1:=⟨j-o-1,by omega⟩;rw[ht,List.getElem?_cons_succ];congr 1
    omega
   ·rw[if_neg d,if_neg (by omega),Array.getElem?_setIfInBounds,if_neg (λm=>e m.symm)]
theorem md_ {w:World} {g:Nat} {T:TypeId} {c b:Array Value} (h:w.heap[g]?=some (.cells c T (0,0))) (i:b.size=c.size):(w.setCells g 0 b.toList).heap[g]?=some (.cells b T (0,0)):=by
 obtain⟨d,h1,h2,f⟩:=gg_ b.toList 0 h;rw[h1];congr 2
 apply Array.ext_getElem?;intro j;rw[f j,Array.length_toList,Nat.zero_add,Nat.sub_zero,Array.getElem?_toList];by_cases e:j<c.size
 ·rw[if_pos ⟨Nat.zero_le _,by omega,e⟩]
 ·rw[if_neg (λh=>e h.2.2),Array.getElem?_eq_none (by omega),Array.getElem?_eq_none (by omega)]
theorem p_ {w:World} {g:Nat} {c:Array Value} {T:TypeId} {b:Nat×Nat} (h:w.heap[g]?=some (.cells c T b)):w.rangeAt g 0 c.toList:=λj v d=>by
 rw[Nat.zero_add];exact (cell_of_row w g j c T b h).trans (by rw[<-Array.getElem?_toList];exact d)
theorem q6_ {w:World} {g:Nat} {c:Array Value} {T:TypeId} {n:Nat} (h:w.heap[g]?=some (.cells c T (0,0))) (d:n<=c.size):w.there g 0 n:=λj b=>by
 rw[Nat.zero_add];exact⟨by rw[cell_of_row w g j c T _ h,Array.getElem?_eq_getElem (by omega)];rfl,frozen_of_row _ _ _ _ _ h⟩
theorem ap_ {P:Program} {w:World} {g:Nat} {c:Array Value} {T:TypeId} {b:Nat×Nat} (h:w.heap[g]?=some (.cells c T b)) (ty:TypeId) (d:TypeDesc) (f:P.underlying ty=some d) (e:d.isRow=true) (hi:(P.info? ty).map (·.size)=some c.size) :
    (Instr.loadAt ty (.pointer (some ⟨g,0,none⟩))).run P w = .ok (.agg c) w:=by
 have:=run_loadAt_mid (P:=P) w g 0 ty c.toList d (p_ h) f e (by rw[Array.length_toList];exact hi);rwa [Array.toArray_toList]at this
section
variable {P:Program} {ops:Array Oper} {rest:List Oper} {op:Oper} {a:Act} {w:World} {Q:Exit->Act->World->Prop}
theorem r_ (e:op.guard=none) (ty:TypeId) (x y:Operand) (j:op.op = .store ty x y) (g:Nat) (c d:Array Value) (T:TypeId) (i:a.eval x = .pointer (some ⟨g,0,none⟩)) (m:a.eval y = .agg d)
    (f:w.heap[g]?=some (.cells c T (0,0))) (k:d.size=c.size) (hi:(P.info? ty).map (·.size)=some d.size) (h1:d.all (·.oneCell')=true)
    (h:∀w',w'.heap[g]?=some (.cells d T (0,0))->Turn (λb=>b=g) w w'->wpList P ops Q rest (a.put op.dst undef) w'):wpList P ops Q (op::rest) a w:=
 wpList_store_mid e ty x y j g 0 d i m (q6_ f (by omega)) hi h1 (h _ (md_ f k) (gf_ (S:=λb=>b=g) g (.inr rfl) _ 0 (Turn.refl _ w)))
theorem e_ (d:Option Nat) {c:Op} {i:TypeId} {b:String} {f:Array Edge} {e:Option (Nat×Bool)} (h:wpList P ops Q (⟨d,c,i,b,f,e⟩::rest) a w):wpList P ops Q (⟨d,c,i,b,f,e⟩::rest) a w:=h
theorem z_ (t:Nat) {ty f:TypeId} {y:Operand} {d:Option Nat} {c:String} {b:Array Edge} {e:Option (Nat×Bool)} (h:wpList P ops Q (⟨d,.store ty (.tmp t) y,f,c,b,e⟩::rest) a w):wpList P ops Q (⟨d,.store ty (.tmp t) y,f,c,b,e⟩::rest) a w:=h
theorem A_ (e:op.guard=none) (ty:TypeId) (x:Operand) (k:op.op = .load ty x) (b o:Nat) (j:a.eval x = .pointer (some ⟨b,o,none⟩)) (c:Array Value) (d:TypeDesc) (i:w.rangeAt b o c.toList)
    (m:P.underlying ty=some d) (f:d.isRow=true) (hi:(P.info? ty).map (·.size)=some c.size) (h:wpList P ops Q rest (a.put op.dst (.agg c)) w):wpList P ops Q (op::rest) a w:=
 wpList_load_mid e ty x k b o j c.toList d i m f (by rw[Array.length_toList];exact hi) (by rw[Array.toArray_toList];exact h)
theorem j1_ {K:Act->World->Prop} (ty:TypeId) (x y:Operand) (i:op.op = .store ty x y) (g:Nat) (c d:Array Value) (T:TypeId) (f:a.eval x = .pointer (some ⟨g,0,none⟩)) (k:a.eval y = .agg d)
    (e:w.heap[g]?=some (.cells c T (0,0))) (j:d.size=c.size) (hi:(P.info? ty).map (·.size)=some d.size) (h1:d.all (·.oneCell')=true)
    (h:∀w',w'.heap[g]?=some (.cells d T (0,0))->Turn (λb=>b=g) w w'->K (a.put op.dst undef) w'):op.wp P a w K Q:=
 wp_store_mid ty x y i g 0 d f k (q6_ e (by omega)) hi h1 (h _ (md_ e j) (gf_ (S:=λb=>b=g) g (.inr rfl) _ 0 (Turn.refl _ w)))
theorem ek_ (b:op.guard=none) (v:Value) (d:(execOp a.eval op).run P w = .ok (.value v) w) (h:wpList P ops Q rest (a.put op.dst v) w):wpList P ops Q (op::rest) a w:=
 wpList_plain b λ_ c=>by unfold Oper.wp;rw[d];exact c _ _ h
theorem O_ (c:op.guard=none) (ty:TypeId) (b:Array (Nat×Operand)) (f:op.op = .build ty b) (ps:Array (Nat×Value)) (d:(b.map λ(i,x)=>(i,a.eval x))=ps) (v:Value) (k:(Instr.build ty ps).run P w = .ok v w) (h:wpList P ops Q rest (a.put op.dst v) w):wpList P ops Q (op::rest) a w:=
 wpList_plain c λ_ j=>by
  unfold Oper.wp execOp;simp only[f];have e:(Instr.build ty (b.map λ(i,x)=>(i,a.eval x))).run P w = .ok v w:=by rw[d];exact k
  simp only[Sem.run_bind,Sem.run_pure,e,Result.andThen_ok];exact j _ _ h
theorem k_ {m:Sem Value} {v:Value} (h:m.run P w = .ok v w):(do pure (Next.value (<-m)):Sem Next).run P w = .ok (.value v) w:=by simp[h]
end
theorem Turn.heap {S:Nat->Prop} {w w':World} {g:Nat} {o:Obj} (ht:Turn S w w') (h:w.heap[g]?=some o) (b:¬S g):w'.heap[g]?=some o:=(ht.block g (b_ h) b).trans h
def Er_ (b:Bool) (s:Value) (k:Int):Array Value:=#[.bool b,s,.int .i64 k]
structure Eq3 (c:Array Value) (b:Bool) (s:Value) (k:Int):Prop where
 o :Er_ b s k=c
theorem Eq3.size {c:Array Value} {b:Bool} {s:Value} {k:Int} (h:Eq3 c b s k):c.size=3:=by rw[<-h.o];rfl
theorem Eq3.one {c:Array Value} {b:Bool} {s:Value} {k:Int} (h:Eq3 c b s k) (e:s.oneCell'=true):c.all (·.oneCell')=true:=by
 rw[<-h.o,Array.all_eq_true_iff_forall_mem];intro v d;unfold Er_ at d;simp at d;rcases d with rfl | rfl | rfl
 ·rfl
 ·exact e
 ·rfl
theorem q7_ {a b:Int} (h:a=b):Ending.returned (.int .i64 a) = .returned (.int .i64 b):=by rw[h]
def J6_ (a b:Bool):Int:=if a=true then -1 else if b=true then 1 else 0
def un_ (v:h_) (w:World) (e:Ending) (w':World):Prop:=e = .returned (.string (ac_ v))/\Below w.heap.size w w'
def d4_ (a b:h_) (w:World) (e:Ending) (w':World):Prop:=e = .returned (.int .i64 (G_ a b))/\Below w.heap.size w w'
theorem Am_ (x y:ByteArray):J6_ (Op.bytesLess x.toList y.toList) (!Op.bytesLess x.toList y.toList && !x.toList==y.toList)=ez_ x.data.toList y.data.toList:=by
 rw[ByteArray.toList_eq,ByteArray.toList_eq];unfold ez_ J6_
 cases h1:Op.bytesLess x.data.toList y.data.toList with
 | true=>rfl
 | false=>
  by_cases h2:x.data.toList=y.data.toList
  ·rw[h2,uc_];simp
  ·have c:Op.bytesLess y.data.toList x.data.toList=true:=by
     cases h4:Op.bytesLess y.data.toList x.data.toList with
     | true=>rfl
     | false=>exact absurd (gd_ _ _ h1 h4) h2
   have b:(x.data.toList==y.data.toList)=false:=beq_eq_false_iff_ne.2 h2;rw[c,b];rfl
end
section
open Go
theorem xa_:cr_ ug_=true:=by
 have h:ug_=br_ 0:=by unfold ug_ br_ Lib.itoa;rw[if_neg (by decide),show (0:Int).toNat=0 from rfl,Lib.decDigits_one (by decide)];rfl
 rw[h];exact oi_ (by decide) (by decide)
theorem dr_ {v:h_} (h0:-9223372036854775808<=v.num) (h1:v.num<=9223372036854775807):cr_ (ac_ v)=true:=by
 unfold ac_;by_cases c:v.kind=2
 ·rw[if_pos c];exact oi_ h0 h1
 ·rw[if_neg c];by_cases b:cr_ v.text=true
  ·rw[if_pos b];exact b
  ·rw[if_neg b];exact xa_
end
section
open Go Go.RowKit
structure Eq6 (c:Array Value) (v:h_) (s:Value):Prop where
 o :c_ v s=c
theorem H_ (v:h_) (s:Value):∃c,Eq6 c v s:=⟨_,⟨rfl⟩⟩
theorem Eq6.size {c:Array Value} {v:h_} {s:Value} (h:Eq6 c v s):c.size=6:=by rw[<-h.o];rfl
structure ag_ (v:h_):Prop where
 n0:-9223372036854775808<=v.num
 n1:v.num<=9223372036854775807
 ts:v.text.size<=4000000000000
theorem Es_ (x:ByteArray) (w:World):Calls Tryz.prog 214 #[.string x] w λe w'=>e = .returned (.bool false)/\w'=w:=by
 go_enter Tryz.func214,Tryz.ntmps214
 go_wp2_with fail;go_ret;exact⟨by simp,rfl⟩
theorem An_ (x:Int) (w:World):Calls Tryz.prog 215 #[.int .i64 x] w λe w'=>e = .returned (.bool false)/\w'=w:=by
 go_enter Tryz.func215,Tryz.ntmps215
 go_wp2_with fail;go_ret;exact⟨by simp,rfl⟩
theorem Ao_ (x y:Int) (w:World):Calls Tryz.prog 133 #[.int .i64 x,.int .i64 y] w λe w'=>e = .returned (.int .i64 (ce_ x y))/\w'=w:=by
 have b:=q_ An_;go_enter Tryz.func133,Tryz.ntmps133
 go_wp2_with (go_at_call 215;(with_reducible refine (b.o _ _).mono ?_);rintro e w' ⟨rfl,rfl⟩)
 all_goals (go_ret;refine⟨q7_ ?_,rfl⟩;unfold ce_;(repeat' split)<;>first | rfl | (exfalso;omega))
theorem on_ (b:Bool) (w:World):Calls Tryz.prog 134 #[.bool b] w λe w'=>e = .returned (.int .i64 (if b=true then 1 else 0))/\w'=w:=by
 cases b
 all_goals
  go_enter Tryz.func134,Tryz.ntmps134
  go_wp2_with fail;go_ret;exact⟨rfl,rfl⟩
theorem i8_ (x y:ByteArray) (w:World):Calls Tryz.prog 130 #[.string x,.string y] w λe w'=>e = .returned (.int .i64 (ez_ x.data.toList y.data.toList))/\w'=w:=by
 have c:=q_ Es_;have b:=q_ (Am_ x y);obtain⟨v,d⟩:=a_ (ez_ x.data.toList y.data.toList);rw[d.o]at b ⊢
 cases h1:Op.bytesLess x.toList y.toList with
 | true=>
  rw[h1]at b;go_enter Tryz.func130,Tryz.ntmps130
  go_wp2_with (go_at_call 214;(with_reducible refine (c.o _ _).mono ?_);rintro e w' ⟨rfl,rfl⟩)
  go_ret;exact⟨by rw[<-b.o];rfl,rfl⟩
 | false=>
  cases h2:(x.toList==y.toList) with
  | true=>
   rw[h1,h2]at b;go_enter Tryz.func130,Tryz.ntmps130
   go_wp2_with (go_at_call 214;(with_reducible refine (c.o _ _).mono ?_);rintro e w' ⟨rfl,rfl⟩)
   go_ret;exact⟨by rw[<-b.o];rfl,rfl⟩
  | false=>
   rw[h1,h2]at b;go_enter Tryz.func130,Tryz.ntmps130
   go_wp2_with (go_at_call 214;(with_reducible refine (c.o _ _).mono ?_);rintro e w' ⟨rfl,rfl⟩)
   go_ret;exact⟨by rw[<-b.o];rfl,rfl⟩
theorem eq_ (v:h_) (s:Value) (h0:-9223372036854775808<=v.num) (h1:v.num<=9223372036854775807) (ht:v.text.size<=4000000000000) (w:World) (C:F_ w) (D:as_ w) :
    Calls Tryz.prog 213 #[.agg (c_ v s)] w (un_ v w):=by
 have I:=q_ (λ(W:World) (z:Below w.heap.size w W)=>Ak_ v.num h0 h1 W (n_ D z));have J:=q_ (λ(W:World) (z:Below w.heap.size w W)=>sf_ v.text (by omega) W (f_ C z));have d:=q_ (show ac_ v=if v.kind=2 then br_ v.num else if cr_ v.text=true then v.text else ug_ from rfl)
 obtain⟨x,L⟩:=a_ (ac_ v);have M:=q_ (show ∀w',Below w.heap.size w w'->un_ v w (.returned (.string x)) w' from λw' hb=>⟨by rw[L.o],hb⟩);obtain⟨o,N⟩:=a_ (br_ v.num);rw[L.o,N.o]at d;have y:=q_ (λh:v.kind=2=>(show x=o from by rw[d.o,if_pos h]));have q:=q_ (λ(h:v.kind≠2) (c:cr_ v.text=true)=>(show x=v.text from by rw[d.o,if_neg h,if_pos c]));have i:=q_ (λ(h:v.kind≠2) (c:cr_ v.text=false)=>(show x=⟨#[48,46,48]⟩ from by rw[d.o,if_neg h,if_neg (by rw[c];exact Bool.false_ne_true)];rfl));clear d;have r:=q_ (λ(W:World) (z:Below w.heap.size w W)=>(show Calls Tryz.prog 266 #[.int .i64 v.num] W (λe w'=>e = .returned (.string o)/\Below W.heap.size W w') from by rw[<-N.o];exact I.o W z));clear I L N
 cases v with
 | mk k b n t V l=>
 unfold c_;simp only[h_.kind,h_.truth,h_.num,h_.text,h_.extra]at r J y q i ⊢;clear h0 h1 ht C D;go_enter Tryz.func213,Tryz.ntmps213
 by_cases f:k=2
 ·have X:=q_ (y.o f);subst f;go_wp2_with fail;refine (r.o _ ((Below.refl _ _).alloc (Nat.le_refl _) _)).mono ?_;rintro e O ⟨rfl,hb⟩;have B:=q_ (((Below.refl w.heap.size w).alloc (Nat.le_refl _) (.cells #[.int .i64 2,.bool b,.int .i64 n,.string t,.string V,s] 39)).trans (hb.mono (by simp)));clear hb;go_wp2_with fail;go_ret;have:=M.o _ B.o;rw[X.o]at this;exact this
 ·have e2:(k==2)=false:=by simpa using f
  have T:=q_ (q.o f);have U:=q_ (i.o f);clear f y q i;go_wp2_with fail;refine (J.o _ ((Below.refl _ _).alloc (Nat.le_refl _) _)).mono ?_;rintro e O ⟨rfl,hb⟩;have Z:O.cell? ⟨w.heap.size,3,none⟩=some (.string t):=(hb.cell (p:=⟨w.heap.size,3,none⟩) (by simp)).trans (cell_of_heap (heap_alloc_new w _) 3);have B:=q_ (((Below.refl w.heap.size w).alloc (Nat.le_refl _) (.cells #[.int .i64 k,.bool b,.int .i64 n,.string t,.string V,s] 39)).trans (hb.mono (by simp)));clear hb;obtain⟨Y,j⟩:=a_ (cr_ t);rw[j.o]
  cases Y with
  | true=>
   have c:=j.o;have m:=q_ (show x=t from T.o c);clear c;go_wp2_with fail;go_ret;have:=M.o _ B.o;rw[m.o]at this;exact this
  | false=>
   have c:=j.o;have m:=q_ (show x=⟨#[48,46,48]⟩ from U.o c);clear c;go_wp2_with fail;go_ret;have:=M.o _ B.o;rw[m.o]at this;exact this
def oo_ (k:Int) (w:World) (e:Ending) (w':World):Prop:=e = .returned (.int .i64 (K_ k))/\Below w.heap.size w w'
theorem c4_ (v:h_) (s:Value) (w:World):Calls Tryz.prog 127 #[.int .i64 1,.agg (c_ v s)] w (oo_ v.kind w):=by
 have hb:=q_ λo:Obj=>show Below w.heap.size w (w.alloc o) from (Below.refl _ _).alloc (Nat.le_refl _) _
 cases v with
 | mk k b n t x l=>
 unfold c_;simp only[h_.kind,h_.truth,h_.num,h_.text,h_.extra];by_cases j:k=5
 ·subst j;go_enter Tryz.func127,Tryz.ntmps127
  go_wp2_with fail;go_ret;exact⟨rfl,hb.o _⟩
 by_cases i:k=6
 ·subst i;go_enter Tryz.func127,Tryz.ntmps127
  go_wp2_with fail;go_ret;exact⟨rfl,hb.o _⟩
 by_cases e:k=7
 ·subst e;go_enter Tryz.func127,Tryz.ntmps127
  go_wp2_with fail;go_ret;exact⟨rfl,hb.o _⟩
 by_cases m:k=9
 ·subst m;go_enter Tryz.func127,Tryz.ntmps127
  go_wp2_with fail;go_ret;exact⟨rfl,hb.o _⟩
 by_cases f:k=8
 ·subst f;go_enter Tryz.func127,Tryz.ntmps127
  go_wp2_with fail;go_ret;exact⟨rfl,hb.o _⟩
 by_cases c:k=10
 ·subst c;go_enter Tryz.func127,Tryz.ntmps127
  go_wp2_with fail;go_ret;exact⟨rfl,hb.o _⟩
 by_cases h:k=4
 ·subst h;go_enter Tryz.func127,Tryz.ntmps127
  go_wp2_with fail;go_ret;exact⟨rfl,hb.o _⟩
 by_cases h1:k=1
 ·subst h1;go_enter Tryz.func127,Tryz.ntmps127
  go_wp2_with fail;go_ret;exact⟨rfl,hb.o _⟩
 by_cases h2:k=2
 ·subst h2;go_enter Tryz.func127,Tryz.ntmps127
  go_wp2_with fail;go_ret;exact⟨rfl,hb.o _⟩
 by_cases d:k=3
 ·subst d;go_enter Tryz.func127,Tryz.ntmps127
  go_wp2_with fail;go_ret;exact⟨rfl,hb.o _⟩
 by_cases h0:k=0
 ·subst h0;go_enter Tryz.func127,Tryz.ntmps127
  go_wp2_with fail;go_ret;exact⟨rfl,hb.o _⟩
 have p:=q_ (show (11:Int)=K_ k from by unfold K_;rw[if_neg j,if_neg i,if_neg e,if_neg m,if_neg f,if_neg c,if_neg h,if_neg h1,if_neg h2,if_neg d,if_neg h0]);have r:(k==5)=false:=by simpa using j
 have I:(k==6)=false:=by simpa using i
 have C:(k==7)=false:=by simpa using e
 have B:(k==9)=false:=by simpa using m
 have D:(k==8)=false:=by simpa using f
 have q:(k==10)=false:=by simpa using c
 have L:(k==4)=false:=by simpa using h
 have J:(k==1)=false:=by simpa using h1
 have z:(k==2)=false:=by simpa using h2
 have y:(k==3)=false:=by simpa using d
 have e0:(k==0)=false:=by simpa using h0
 clear j i e m f c h h1 h2 d h0;go_enter Tryz.func127,Tryz.ntmps127
 go_wp2_with fail;go_ret;exact⟨q7_ p.o,hb.o _⟩
theorem W_ (f:Nat->Nat):(P_ f).size=16:=by unfold P_;simp
theorem op_ (f:Nat->Nat):(P_ f).all (·.oneCell')=true:=by rw[Array.all_eq_true_iff_forall_mem];intro v b;unfold P_ at b;obtain⟨i,hi,rfl⟩:=Array.mem_ofFn.1 b;rfl
def S_ (n:Bool) (f:Nat->Nat):Array Value:=#[.bool n]++P_ f
theorem t_ (n:Bool) (f:Nat->Nat):(S_ n f).size=17:=by unfold S_;rw[Array.size_append,W_];rfl
structure EqN (c:Array Value) (n:Bool) (f:Nat->Nat):Prop where
 o :S_ n f=c
theorem me_ (n:Bool) (f:Nat->Nat):∃c,EqN c n f:=⟨_,⟨rfl⟩⟩
structure EqU (c:Array Value) (f:Nat->Nat):Prop where
 o :P_ f=c
theorem q8_ (f:Nat->Nat):∃c,EqU c f:=⟨_,⟨rfl⟩⟩
theorem ss_ (l:List UInt8):∀b:Nat,l.all a8_=true->b*10 ^ l.length+ao_ l<1844674407370955161->Lib.parseUintM (2 ^ 64-1) b l = .ok (b*10 ^ l.length+ao_ l):=by
 induction l with
 | nil=>intro b _ _;simp[Lib.parseUintM,ao_]
 | cons c r h=>
  intro b d hb;rw[List.all_cons,Bool.and_eq_true,cs_]at d
  have e:b*10 ^ (c::r).length+ao_ (c::r)=(b*10+(c.toNat-48))*10 ^ r.length+ao_ r:=by
   have h1:=dq_ [c] r;have h2:ao_ [c]=c.toNat-48:=by show 0*10+(c.toNat-48)=_;omega
   rw[List.singleton_append,h2]at h1;rw[h1,List.length_cons,Nat.pow_succ,Nat.add_mul,Nat.mul_assoc,Nat.mul_comm 10,Nat.add_assoc]
  rw[e]at hb ⊢;have f:1<=10 ^ r.length:=Nat.one_le_pow _ _ (by decide);have j:(b*10+(c.toNat-48))*1<=(b*10+(c.toNat-48))*10 ^ r.length:=Nat.mul_le_mul_left _ f;have i:2 ^ 64-1=18446744073709551615:=by decide
  unfold Lib.parseUintM;rw[if_pos d.1,if_neg (by omega),if_neg (by omega)];exact h _ d.2 hb
theorem Et_ (c:UInt8) (r:List UInt8):ao_ (c::r)=(c.toNat-48)*10 ^ r.length+ao_ r:=by
 have h1:=dq_ [c] r;have h2:ao_ [c]=c.toNat-48:=by show 0*10+(c.toNat-48)=_;omega
 rw[List.singleton_append,h2]at h1;exact h1
theorem xb_ (l:List UInt8) (h:l.all a8_=true):ao_ l<10 ^ l.length:=by
 induction l with
 | nil=>simp[ao_]
 | cons c r b=>
  rw[List.all_cons,Bool.and_eq_true,cs_]at h;have h1:=b h.2;rw[Et_,List.length_cons,Nat.pow_succ];have h2:(c.toNat-48)*10 ^ r.length<=9*10 ^ r.length:=Nat.mul_le_mul_right _ (by omega);omega
theorem xc_ {l:List UInt8} (h:l.all a8_=true) (h0:0<l.length) (c:l.length<=9):Lib.parseUintB 64 l = .ok (ao_ l):=by
 unfold Lib.parseUintB;rw[if_neg (λe=>by rw[e]at h0;simp at h0)];have h1:=xb_ l h;have h2:10 ^ l.length<=10 ^ 9:=Nat.pow_le_pow_right (by decide) c;have d:(10:Nat) ^ 9=1000000000:=by decide
 have b:=ss_ l 0 h (by omega);rw[Nat.zero_mul,Nat.zero_add]at b;exact b
theorem Kp_ (s:ByteArray) (c:s.data.toList.all a8_=true) (h0:0<s.size) (b:s.size<=9) (w:World) :
    Calls Tryz.prog 347 #[.string s,.int .i64 10,.int .i64 64] w λe w'=>e = .returned (.tuple #[.int .u64 (ao_ s.data.toList:Int),.nilIface])/\Below w.heap.size w w':=
 (Any.strconv_ParseUint_10_at64_ok Tryz.laysPu14 s (by omega) (ao_ s.data.toList) (xc_ c h0 b) w).mono λe w' ⟨h1,h2⟩=>⟨h1,by
  rcases h2 with rfl | rfl
  ·exact Below.refl _ _
  ·exact Lib.bytesWorld_below _ _ _⟩
theorem xd_ (f:Nat->Nat) {i:Nat} (hi:i<16) (m:Nat):(P_ f).setIfInBounds i (.int .u64 (m:Int))=P_ (λj=>if j=i then m else f j):=by
 apply Array.ext_getElem?;intro j;rcases Nat.lt_or_ge j 16 with b | b
 ·have d:=c2_ f b;have c:=c2_ (λj=>if j=i then m else f j) b
  rw[Array.getElem?_setIfInBounds,d,c,W_];by_cases e:i=j
  ·subst e;rw[if_pos rfl,if_pos hi,if_pos rfl]
  ·rw[if_neg e,if_neg (λc=>e c.symm)]
 ·rw[Array.getElem?_eq_none (by rw[Array.size_setIfInBounds,W_];exact b),Array.getElem?_eq_none (by rw[W_];exact b)]
theorem uo_ {s:ByteArray} (k:Nat):(s.extract k s.size).data.toList=s.data.toList.drop k:=by rw[ByteArray.data_extract,Array.toList_extract,List.extract_eq_take_drop];have b:s.size=s.data.toList.length:=(a1_ s).symm;rw[b];apply List.take_of_length_le;rw[List.length_drop];exact Nat.le_refl _
theorem Kq_ {s:ByteArray} (k:Nat):(s.extract 0 k).data.toList=s.data.toList.take k:=by rw[ByteArray.data_extract,Array.toList_extract,List.extract_eq_take_drop,Nat.sub_zero,List.drop_zero]
def H9_ (l:List UInt8) (w:World) (e:Ending) (w':World):Prop:=∃f:Nat->Nat,e = .returned (.agg (P_ f))/\Below w.heap.size w w'/\(∀i,i<16->f i<bW)/\pv f 16=ao_ l
structure J7_ (w:World) (z:Nat) (l:List UInt8) (i:Nat) (r:ByteArray) (f:Nat->Nat) (wx:World):Prop where
 hb:Below w.heap.size w wx
 hz:w.heap.size=z
 h0:wx.heap[z]?=some (.cells (P_ (λ_=>0)) 291 (0,0))
 h1:wx.heap[z+1]?=some (.cells (P_ f) 291 (0,0))
 lo:∀j,j<i->f j<bW
 hi:∀j,i<=j->f j=0
 dig:r.data.toList.all a8_=true
 sz:r.size+9*i<=144\/r.size=0
 val:pv f i+ao_ r.data.toList*bW ^ i=ao_ l
theorem Eu_ {f:Nat->Nat} {i:Nat} (h:∀j,i<=j->f j=0):∀n,pv f (i+n)=pv f i:=by
 intro n;induction n with
 | zero=>rfl
 | succ n b=>
  show pv f (i+n)+f (i+n)*bW ^ (i+n)=pv f i;rw[b,h (i+n) (by omega)];simp
theorem up_ (s:ByteArray) (hs:s.data.toList.all a8_=true) (a8:s.size<=144) (w:World) :
    Calls Tryz.prog 328 #[.string s] w (H9_ s.data.toList w):=by
 obtain⟨z,O⟩:=a_ w.heap.size;obtain⟨w1,y⟩:=a_ ((w.alloc (.cells #[.int .u64 0,.int .u64 0,.int .u64 0,.int .u64 0,.int .u64 0,.int .u64 0,.int .u64 0,.int .u64 0,.int .u64 0,.int .u64 0,.int .u64 0,.int .u64 0,.int .u64 0,.int .u64 0,.int .u64 0,.int .u64 0] 291)).alloc (.cells #[.int .u64 0,.int .u64 0,.int .u64 0,.int .u64 0,.int .u64 0,.int .u64 0,.int .u64 0,.int .u64 0,.int .u64 0,.int .u64 0,.int .u64 0,.int .u64 0,.int .u64 0,.int .u64 0,.int .u64 0,.int .u64 0] 291));have q:(#[.int .u64 0,.int .u64 0,.int .u64 0,.int .u64 0,.int .u64 0,.int .u64 0,.int .u64 0,.int .u64 0,.int .u64 0,.int .u64 0,.int .u64 0,.int .u64 0,.int .u64 0,.int .u64 0,.int .u64 0,.int .u64 0]:Array Value)=P_ (λ_=>0):=by kernel_rfl
 have HM:=q_ (show J7_ w z s.data.toList 0 s (λ_=>0) w1 from {
  hb:=by rw[<-y.o];exact L_ w _ _
  hz:=O.o
  h0:=by rw[<-y.o,<-O.o,q,Below.heap_alloc _ _ _ (by simp)];exact heap_alloc_new w _
  h1:=by rw[<-y.o,<-O.o,q];have:=heap_alloc_new (w.alloc (.cells (P_ (λ_=>0)) 291)) (.cells (P_ (λ_=>0)) 291);simpa using this
  lo:=λj J=>absurd J (Nat.not_lt_zero _)
  hi:=λ_ _=>rfl
  dig:=hs
  sz:=.inl (by omega)
  val:=by simp[pv] })
 clear hs q;go_enter Tryz.func328,Tryz.ntmps328
 go_upto_region 2 with fail;rw[y.o,O.o];go_wp2_with fail;go_loopw [0,4] (λs0 Y wx=>∃(i:Nat) (r:ByteArray) (f:Nat->Nat),i<=16/\r.size<=144/\s0 = .string r/\Y = .int .i64 (i:Nat)/\Q_ (J7_ w z s.data.toList i r f wx)) (λ_ Y _=>16-(intOf Y).toNat)
 case atStart=>exact⟨0,s,_,by omega,a8,rfl,rfl,HM⟩
 case round=>
  obtain⟨i,r,f,hi,ad,rfl,rfl,d⟩:=hrel;by_cases h0:0<r.size
  ·have I:i<16:=by have:=d.o.sz;omega
   have e1:(0:Int)<(r.size:Int):=by omega
   have e2:(0:Int)<=i:=by omega
   have e3:(i:Int)<16:=by omega
   have w0:IntKind.i64.wrap ((r.size:Int)-9)=(r.size:Int)-9:=IntWalk.i64_in _ (by omega);have ab:IntKind.i64.wrap ((i:Int)+1)=(i:Int)+1:=IntWalk.i64_in _ (by omega);obtain⟨k,t⟩:=a_ (r.size-9);have aa:k<=r.size:=by rw[<-t.o];omega
   have ac:max ((r.size:Int)-9) 0=(k:Int):=by rw[<-t.o];omega
   obtain⟨c,T⟩:=a_ (r.extract k r.size);have L:c.size=r.size-k:=by rw[<-T.o];simp
   have W:=q_ (Kp_ c (by rw[<-T.o,uo_,List.all_eq_true];exact λx C=>List.all_eq_true.1 d.o.dig x (List.mem_of_mem_drop C)) (by rw[L,<-t.o];omega) (by rw[L,<-t.o];omega) wr);obtain⟨m,Hm⟩:=a_ (ao_ c.data.toList);rw[Hm.o]at W;have X:=q_ (show m=ao_ (r.data.toList.drop (r.data.toList.length-9)) from by rw[<-Hm.o,<-T.o,uo_,a1_,t.o]);obtain⟨Z,M⟩:=a_ (r.extract 0 k);have V:=q_ (show Z.data.toList=r.data.toList.take (r.data.toList.length-9) from by rw[<-M.o,Kq_,a1_,t.o]);have U:=q_ (show Z.size=k from by rw[<-M.o];simp;omega);have a5:=q_ (show k=r.size-9 from t.o.symm);have af:=T.o;have a9:=M.o;have a2:=db_ (z+1) i;clear L;go_wp2_with fail;refine W.o.mono ?_;rintro e w2 ⟨rfl,B⟩;have a1:=q_ B;have N:=q_ ((B.block (z+1) (b_ d.o.h1)).trans d.o.h1);have a0:=q_ ((B.block z (b_ d.o.h0)).trans d.o.h0);have c1:w2.cell? ⟨z+1,i,none⟩=some (.int .u64 (f i:Int)):=(cell_of_heap N.o i).trans (c2_ f I);have f1:w2.frozen? ⟨z+1,i,none⟩=false:=frozen_of_row _ _ _ _ _ N.o;clear B;go_wp2_with fail;go_roundw
   case measure=>simp[intOf];omega
   case rel=>
    have ae:0<bW:=by decide
    refine⟨i+1,Z,λj=>if j=i then m else f j,by omega,by rw[U.o];omega,rfl,by go_num,q_ ?_⟩
    have a6:m<bW:=by rw[X.o];refine Nat.lt_of_lt_of_le (xb_ _ ?_) (show 10 ^ _<=10 ^ 9 from Nat.pow_le_pow_right (by decide) (by rw[List.length_drop];omega));rw[List.all_eq_true];exact λx C=>List.all_eq_true.1 d.o.dig x (List.mem_of_mem_drop C)
    exact {
     hb:=d.o.hb.trans (((a1.o.mono d.o.hb.size)).setCell (by show w.heap.size<=z+1;have:=d.o.hz;omega) _)
     hz:=d.o.hz
     h0:=by rw[heap_setCell_other _ _ _ _ (by show z≠z+1;omega)];exact a0.o
     h1:=by rw[heap_setCell_same _ _ _ _ _ _ N.o,xd_ f I]
     lo:=λj J=>by
      by_cases e:j=i
      ·simp only[if_pos e];exact a6
      ·simp only[if_neg e];exact d.o.lo j (by omega)
     hi:=λj J=>by
      simp only[if_neg (show j≠i by omega)];exact d.o.hi j (by omega)
     dig:=by rw[V.o,List.all_eq_true];exact λx C=>List.all_eq_true.1 d.o.dig x (List.mem_of_mem_take C)
     sz:=by rw[U.o];have:=a5.o;have:=d.o.sz;omega
     val:=by
      rw[V.o]
      exact D8_ (by rw[<-d.o.val];congr 1;exact jw_ (λj J=>if_neg (by omega))) (by
       show (if i=i then m else f i)=_
       rw[if_pos rfl];exact X.o) }
  ·have a7:r.size=0:=by omega
   have e1:¬(0:Int)<(r.size:Int):=by omega
   have D:r.data.toList=[]:=List.eq_nil_of_length_eq_zero ((a1_ r).trans a7);have HV:=q_ (show pv f 16=ao_ s.data.toList from by have h1:=d.o.val;rw[D]at h1;have h2:=Eu_ d.o.hi (16-i);rw[show i+(16-i)=16 by omega]at h2;rw[h2,<-h1];simp[ao_])
   have HF:=q_ (show ∀j,j<16->f j<bW from λj J=>by
    rcases Nat.lt_or_ge j i with h | h
    ·exact d.o.lo j h
    ·rw[d.o.hi j h];decide)
   clear h0 D
   go_wp2_with (first
    | (refine wpList_load_row rfl 291 _ rfl (z+1) rfl 291 (P_ f) (0,0) (.array 16 225) d.o.h1 (by kernel_rfl) rfl (by rw[W_];kernel_rfl) ?_)
    | (refine r_ rfl 291 _ _ rfl z (P_ (λ_=>0)) (P_ f) 291 rfl rfl d.o.h0 (by rw[W_,W_]) (by rw[W_];kernel_rfl) (op_ f) ?_;intro wf a3 a4))
   refine bodyPost_ret (v:=.agg (P_ f)) (results_cell_row (p:=2) (ty:=291) (by kernel_rfl) _ _ z 291 (P_ f) (0,0) (.array 16 225) rfl a3 (by kernel_rfl) rfl (by rw[W_];kernel_rfl)) rfl ⟨f,rfl,?_,HF.o,HV.o⟩;exact d.o.hb.trans (a4.below (λb _ h=>by have:=d.o.hz;omega) d.o.hb.size)
theorem ay_ (n:Bool) (f:Nat->Nat):(S_ n f).all (·.oneCell')=true:=by
 have h:=Array.all_eq_true_iff_forall_mem.1 (op_ f);rw[Array.all_eq_true_iff_forall_mem];intro v b;unfold S_ at b;rw[Array.mem_append]at b;rcases b with b | b
 ·simp at b;subst b;rfl
 ·exact h v b
theorem Ap_ (n:Bool) (f:Nat->Nat) (w:World):(Instr.build 293 #[(0,.bool n),(1,.agg (P_ f))]).run Tryz.prog w = .ok (.agg (S_ n f)) w:=
 run_build w _ _ _ (by kernel_rfl)
def Kr_ (s:ByteArray) (w:World) (e:Ending) (w':World):Prop:=∃f:Nat->Nat,e = .returned (.tuple #[.agg (S_ (di_ s) f),.bool true])/\Below w.heap.size w w'/\(∀i,i<16->f i<bW)/\g2_ s=sgV (di_ s) (pv f 16)
theorem xe_ {a b:List UInt8} (d:a.all a8_=true) (hb:b.all a8_=true) (k:Nat):((a++b)++List.replicate k 48).all a8_=true:=by rw[List.all_append,List.all_append,d,hb,Bool.true_and,Bool.true_and,List.all_eq_true];intro x c;rw[List.eq_of_mem_replicate c];decide
theorem uq_ (s:ByteArray) (V:cr_ s=true) (w:World) (hg:F_ w) :
    Calls Tryz.prog 301 #[.string s] w (Kr_ s w):=by
 obtain⟨d,a,b,c⟩:=qy_ V;obtain⟨T,q⟩:=Ee_ c
 have b3:s.size<=62:=by
  rcases Nat.lt_or_ge 62 s.size with h | h
  ·have:=nx_ h;rw[V]at this;cases this
  ·exact h
 have a7:0<s.size:=by have h1:s.size=s.data.toList.length:=(a1_ s).symm;rw[h1,c.eq,List.length_append,List.length_append,List.length_cons];omega
 have i:s[0].toNat=45↔d=true:=by
  have h2:s.data.toList.head?=some s[0]:=by rw[List.head?_eq_getElem?];exact jn_ s 0 a7
  have U:di_ s=(some s[0]==some (45:UInt8)):=by unfold di_;rw[h2]
  rw[T]at U;constructor
  ·intro h;have:s[0]=45:=UInt8.toNat_inj.1 h;rw[U,this];rfl
  ·intro h;rw[h]at U;have:s[0]=45:=by simpa using U.symm
   rw[this];rfl
 obtain⟨t,Ht⟩:=a_ (cp_ s);rw[Ht.o]at q
 have af:d=true->s.extract 1 s.size=t:=λh=>by
  have h1:=(Hq_ a7 (i.2 h)).2.2;rw[<-Ht.o,h1]
 have ag:d=false->s=t:=λh=>by
  apply ByteArray.ext;apply Array.toList_inj.1;rw[q,c.eq,h];rfl
 have av:t.size=a.length+(b.length+1):=by show t.data.toList.length=_;rw[q,List.length_append,List.length_cons]
 have au:=q_ c;have a9:=q_ T;have I:=q_ (λ(W:World) (hW:F_ W)=>sf_ s (by omega) W hW);rw[V]at I;have x:=q_ (λ(W:World) (hW:F_ W)=>show Calls Tryz.prog 295 #[.string t,.string ⟨#[46]⟩] W λe w'=>e = .returned (.tuple #[.string (bK a),.string (bK b),.bool true])/\∃n,w'=W.drewN n from by obtain⟨m,hm⟩:=hW;have:=yx_ t ⟨#[46]⟩ m W (by have:=c.la;have:=c.lb;omega) hm;rw[q,sc_ (z6_ c.da)]at this;exact this);have a1:(bK b).size=b.length:=bp_ b;have a8:(bK a).size=a.length:=bp_ a;have ai:=c.lb;have ac:=c.la;obtain⟨k,r⟩:=a_ (20-b.length);have O:=q_ (λ(W:World)=>show Calls Tryz.prog 325 #[.string ⟨#[48]⟩,.int .i64 (k:Int)] W λe w'=>e = .returned (.string (bK (List.replicate k 48)))/\Below W.heap.size W w' from by have:=nv_ ⟨#[48]⟩ k W (by rw[<-r.o];omega) (by rw[<-r.o];show 1*(20-b.length)<=_;omega);have e:Lib.repeatL (⟨#[48]⟩:ByteArray).data.toList k=List.replicate k 48:=l9_ k;rw[e]at this;exact this);have X:=q_ (λ(W:World)=>up_ (bK ((a++b)++List.replicate k 48)) (by rw[h0_];exact xe_ c.da c.db k) (by rw[bp_,List.length_append,List.length_append,List.length_replicate,<-r.o];omega) W)
 have j:∀W:World,(Op.stringOp .add (bK a) (bK b)).run Tryz.prog W = .ok (.string (bK (a++b))) W:=λW=>by
  rw[<-cb_];exact run_string_add_sum W _ _ (by rw[a1,a8];omega)
 have p:∀W:World,(Op.stringOp .add (bK (a++b)) (bK (List.replicate k 48))).run Tryz.prog W = .ok (.string (bK ((a++b)++List.replicate k 48))) W:=λW=>by
  rw[show bK ((a++b)++List.replicate k 48)=bK (a++b)++bK (List.replicate k 48) from by rw[cb_]];exact run_string_add_sum W _ _ (by rw[bp_,bp_,List.length_append,List.length_replicate,<-r.o];omega)
 have b2:IntKind.i64.wrap (20-(b.length:Int))=(k:Int):=by rw[IntWalk.i64_in _ (by omega),<-r.o];omega
 have b1:(20:Int)-(b.length:Int)=(k:Int):=by rw[<-r.o];omega
 have ab:=q_ (show ao_ ((a++b)++List.replicate k 48)=ao_ (a++b)*10 ^ (20-b.length) from by rw[H4_,r.o]);have y:=q_ (h0_ ((a++b)++List.replicate k 48));obtain⟨S3,ao⟩:=a_ (bK ((a++b)++List.replicate k 48));obtain⟨S2,ah⟩:=a_ (bK (List.replicate k 48));obtain⟨S1,ae⟩:=a_ (bK (a++b));obtain⟨Sa,aq⟩:=a_ (bK a);obtain⟨Sb,ad⟩:=a_ (bK b);rw[ao.o]at X p y;rw[ah.o]at O p;rw[ae.o]at j p;rw[aq.o]at x j;rw[ad.o]at x j a1;obtain⟨z,Hz⟩:=a_ w.heap.size;obtain⟨w1,M⟩:=a_ (w.alloc (.cells #[.bool false,.int .u64 0,.int .u64 0,.int .u64 0,.int .u64 0,.int .u64 0,.int .u64 0,.int .u64 0,.int .u64 0,.int .u64 0,.int .u64 0,.int .u64 0,.int .u64 0,.int .u64 0,.int .u64 0,.int .u64 0,.int .u64 0] 293));have C:(#[.bool false,.int .u64 0,.int .u64 0,.int .u64 0,.int .u64 0,.int .u64 0,.int .u64 0,.int .u64 0,.int .u64 0,.int .u64 0,.int .u64 0,.int .u64 0,.int .u64 0,.int .u64 0,.int .u64 0,.int .u64 0,.int .u64 0]:Array Value)=S_ false (λ_=>0):=by kernel_rfl
 have N:=q_ (show Below w.heap.size w w1 from by rw[<-M.o];exact (Below.refl _ w).alloc (Nat.le_refl _) _);have Z:=q_ (show w1.heap[z]?=some (.cells (S_ false (λ_=>0)) 293 (0,0)) from by rw[<-M.o,<-Hz.o,C];exact heap_alloc_new w _);have a5:=q_ (f_ hg N.o);clear c T hg V C a8 q av ac ai;go_enter Tryz.func301,Tryz.ntmps301
 go_upto_region 1 with fail;rw[M.o,Hz.o];go_wp2_with fail;refine (I.o w1 a5.o).mono ?_;rintro e w2 ⟨rfl,B⟩;have am:=q_ (N.o.trans (B.mono N.o.size));have ak:=q_ ((B.block z (b_ Z.o)).trans Z.o);have b0:=q_ (f_ a5.o B);clear B
 have e1:((s[0].toNat:Int)==45)=d:=by
  cases d with
  | true=>simp;have:=i.2 rfl;omega
  | false=>simp;intro h;have:=i.1 (by omega);cases this
 go_upto_if 15 with fail;go_cut [0] (λs0 wx=>s0 = .string t/\wx=w2)
 case first=>
  cases d with
  | true=>
   have hx:=q_ (af rfl);go_wp2_with fail;go_meet;exact⟨rfl,rfl⟩
  | false=>
   have hx:=q_ (ag rfl);go_wp2_with fail;go_meet;exact⟨rfl,rfl⟩
 case rest=>
  obtain⟨h0,rfl⟩:=hcut;subst h0;go_wp2_with fail;refine (x.o wc b0.o).mono ?_;rintro e w3 ⟨rfl,q3,L⟩;have a6:=q_ (show w3.heap[z]?=some (.cells (S_ false (λ_=>0)) 293 (0,0)) from by rw[L];exact ak.o);have a3:=q_ (show Below w.heap.size w w3 from by rw[L];exact fg_ am.o q3);clear L;go_wp2_with fail;refine (O.o w3).mono ?_;rintro e w4 ⟨rfl,D⟩;have Y:=q_ ((D.block z (b_ a6.o)).trans a6.o);have a0:=q_ (a3.o.trans (D.mono a3.o.size));clear D;go_wp2_with fail;refine (X.o w4).mono ?_;rintro e w5 ⟨f,rfl,J,aa,a4⟩;have ap:=q_ ((J.block z (b_ Y.o)).trans Y.o);have a2:=q_ (a0.o.trans (J.mono a0.o.size));have ar:=q_ aa;have az:=q_ a4;clear J aa a4;dsimp only;rename_i hK;refine hK _ _ ?_;refine O_ rfl 293 _ rfl #[(0,.bool d),(1,.agg (P_ f))] (by kernel_rfl) (.agg (S_ d f)) (Ap_ d f _) ?_;refine r_ rfl 293 _ _ rfl z (S_ false (λ_=>0)) (S_ d f) 293 rfl rfl ap.o (by rw[t_,t_]) (by rw[t_];kernel_rfl) (ay_ d f) ?_;intro wf aw aj;go_wp2_with fail;have ay:=run_loadVar_row (P:=Tryz.prog) wf z 293 293 (S_ d f) (0,0) _ aw Tryz.underlying293 rfl (by rw[t_];kernel_rfl);have c:=au.o;refine bodyPost_ret (v:=.tuple #[.agg (S_ d f),.bool true]) (by simp[results,Tryz.results301,asAddr,ay]) rfl ⟨f,by rw[a9.o],?_,ar.o,?_⟩
  ·exact a2.o.trans (aj.below (λb _ h=>by have:=Hz.o;omega) a2.o.size)
  ·rw[a9.o,sr_ c,az.o,y.o,ab.o];rfl
def bo_:Array Value:=#[.bool false,.int .u64 0,.int .u64 0,.int .u64 0,.int .u64 0,.int .u64 0,.int .u64 0,.int .u64 0,.int .u64 0,.int .u64 0,.int .u64 0,.int .u64 0,.int .u64 0,.int .u64 0,.int .u64 0,.int .u64 0,.int .u64 0]
def oq_ (s:ByteArray) (f:Nat->Nat):Prop:=(∀i,i<16->f i<bW)/\g2_ s=sgV (di_ s) (pv f 16)
def Ks_ (s t:ByteArray) (w:World) (e:Ending) (w':World):Prop:=∃f g:Nat->Nat,e = .returned (.tuple #[.agg (S_ (di_ s) f),.agg (S_ (di_ t) g),.bool true])/\Below w.heap.size w w'/\oq_ s f/\oq_ t g
abbrev cz_ (c:Array Value):Obj:=.cells c 293 (0,0)
theorem Ev_ (s t:ByteArray) (hs:cr_ s=true) (ht:cr_ t=true) (w:World) (hg:F_ w) :
    Calls Tryz.prog 264 #[.string s,.string t] w (Ks_ s t w):=by
 obtain⟨z,Hz⟩:=a_ w.heap.size;obtain⟨w1,M⟩:=a_ ((w.alloc (.cells #[.bool false,.int .u64 0,.int .u64 0,.int .u64 0,.int .u64 0,.int .u64 0,.int .u64 0,.int .u64 0,.int .u64 0,.int .u64 0,.int .u64 0,.int .u64 0,.int .u64 0,.int .u64 0,.int .u64 0,.int .u64 0,.int .u64 0] 293)).alloc (.cells #[.bool false,.int .u64 0,.int .u64 0,.int .u64 0,.int .u64 0,.int .u64 0,.int .u64 0,.int .u64 0,.int .u64 0,.int .u64 0,.int .u64 0,.int .u64 0,.int .u64 0,.int .u64 0,.int .u64 0,.int .u64 0,.int .u64 0] 293));have a2:=q_ (show Below w.heap.size w w1 from by rw[<-M.o];exact L_ w _ _);have ac:=q_ (show w1.heap[z]?=some (cz_ bo_) from by rw[<-M.o,<-Hz.o];exact heap_alloc2_old w _ _);have aa:=q_ (show w1.heap[z+1]?=some (cz_ bo_) from by rw[<-M.o,<-Hz.o];exact heap_alloc2_new w _ _);have ak:=q_ (f_ hg a2.o);have HS:=q_ (λ(W:World) (hW:F_ W)=>uq_ s hs W hW);have HT:=q_ (λ(W:World) (hW:F_ W)=>uq_ t ht W hW);clear hg;go_enter Tryz.func264,Tryz.ntmps264
 go_upto_region 1 with fail;rw[M.o,Hz.o];go_wp2_with fail;refine (HS.o w1 ak.o).mono ?_;rintro e w2 ⟨f,rfl,ai,am,ao⟩;have az:=q_ (show oq_ s f from ⟨am,ao⟩);have r:=q_ ai;obtain⟨n1,aq⟩:=a_ (di_ s);rw[aq.o];obtain⟨m,L⟩:=a_ w2.heap.size;obtain⟨w3,a7⟩:=a_ (w2.alloc (.cells #[.bool false,.int .u64 0,.int .u64 0,.int .u64 0,.int .u64 0,.int .u64 0,.int .u64 0,.int .u64 0,.int .u64 0,.int .u64 0,.int .u64 0,.int .u64 0,.int .u64 0,.int .u64 0,.int .u64 0,.int .u64 0,.int .u64 0] 293));have b8:=q_ (show w3.heap[m]?=some (cz_ bo_) from by rw[<-a7.o,<-L.o];exact heap_alloc_new w2 _);have a0:=q_ (show Below w2.heap.size w2 w3 from by rw[<-a7.o];exact (Below.refl _ _).alloc (Nat.le_refl _) _);clear ai am ao;have O:=q_ (And.intro a7.o L.o)
 go_wp2_with (first
  | (refine r_ (op:=⟨none,_,_,_,_,_⟩) rfl 293 _ _ rfl w2.heap.size bo_ (S_ n1 f) 293 rfl rfl (by have h:=b8.o;rw[<-O.o.1,<-O.o.2]at h;exact h) (by rw[t_];rfl) (by rw[t_];kernel_rfl) (ay_ n1 f) ?_;intro w4 a1 N;rw[O.o.1]at N;rw[O.o.2]at N a1 ⊢))
 have ay:=q_ (N.below (B:=w2.heap.size) (λb _ h=>by have:=L.o;omega) a0.o.size);have q:=q_ (r.o.trans ((a0.o.trans ay.o).mono r.o.size));have Z:=q_ a1;clear a1 N;refine (HT.o w4 (f_ ak.o q.o)).mono ?_;rintro e w5 ⟨g,rfl,ae,au,ar⟩;have b3:=q_ (show oq_ t g from ⟨au,ar⟩);have C:=q_ ae;obtain⟨Y,ah⟩:=a_ (di_ t);rw[ah.o];obtain⟨X,I⟩:=a_ w5.heap.size;obtain⟨w6,a6⟩:=a_ (w5.alloc (.cells #[.bool false,.int .u64 0,.int .u64 0,.int .u64 0,.int .u64 0,.int .u64 0,.int .u64 0,.int .u64 0,.int .u64 0,.int .u64 0,.int .u64 0,.int .u64 0,.int .u64 0,.int .u64 0,.int .u64 0,.int .u64 0,.int .u64 0] 293));have bb:=q_ (show w6.heap[X]?=some (cz_ bo_) from by rw[<-a6.o,<-I.o];exact heap_alloc_new w5 _);have a9:=q_ (show Below w5.heap.size w5 w6 from by rw[<-a6.o];exact (Below.refl _ _).alloc (Nat.le_refl _) _);clear ae au ar;have d:=q_ (And.intro a6.o I.o)
 go_upto_region 3 with (first
  | (refine r_ (op:=⟨none,_,_,_,_,_⟩) rfl 293 _ _ rfl w5.heap.size bo_ (S_ Y g) 293 rfl rfl (by have h:=bb.o;rw[<-d.o.1,<-d.o.2]at h;exact h) (by rw[t_];rfl) (by rw[t_];kernel_rfl) (ay_ Y g) ?_;intro U a4 T;rw[d.o.1]at T;rw[d.o.2]at T a4 ⊢))
 have aw:=q_ (T.below (B:=w5.heap.size) (λb _ h=>by have:=I.o;omega) a9.o.size);have a5:=q_ (C.o.trans ((a9.o.trans aw.o).mono C.o.size));have D:=q_ (q.o.trans (a5.o.mono q.o.size));have aj:=q_ ((a5.o.block m (b_ Z.o)).trans Z.o);have b1:=q_ ((D.o.block z (b_ ac.o)).trans ac.o);have b4:=q_ ((D.o.block (z+1) (b_ aa.o)).trans aa.o);have av:=q_ a4;have ab:=q_ (a2.o.trans (D.o.mono a2.o.size));have J:=q_ (show z+1<m/\m<X from ⟨by have h1:=b_ aa.o;have h2:=r.o.size;have:=L.o;omega,by have h1:=b_ Z.o;have h2:=C.o.size;have:=I.o;omega⟩);clear a4 T;have x:=t_ n1 f;have y:=t_ Y g;have o1:=ay_ n1 f;have o2:=ay_ Y g;obtain⟨i,ad⟩:=a_ (S_ n1 f);obtain⟨j,ap⟩:=a_ (S_ Y g);rw[ad.o]at aj x o1 ⊢;rw[ap.o]at av y o2 ⊢;have x:=q_ x;have y:=q_ y;have o1:=q_ o1;have o2:=q_ o2;have s1:=q_ (show U.drew.heap[m]?=some (cz_ i)/\U.drew.heap[X]?=some (cz_ j) from ⟨aj.o,av.o⟩);refine wp_region_held_drew (S:=λW'=>W'.heap[m]?=some (cz_ i)/\W'.heap[X]?=some (cz_ j)) (by kernel_rfl) s1.o λc=>?_;refine V_.o ?_;refine J_ 0 21 (.agg i) c (λw a3=>?_) λc=>?_
 ·exact k_ (ap_ a3.1 293 _ Tryz.underlying293 rfl (by rw[x.o];kernel_rfl))
 simp only[Act.put,aT,aZ,aS];refine J_ 1 22 (.agg j) c (λw a3=>?_) λc=>?_
 ·exact k_ (ap_ a3.2 293 _ Tryz.underlying293 rfl (by rw[y.o];kernel_rfl))
 simp only[Act.put,aT,aZ,aS];refine v_ 2 23 (.bool true) c λc=>?_;simp only[Act.put,aT,aZ,aS];refine v_ 3 24 (.bool true) c λc=>?_;simp only[Act.put,aT,aZ,aS];refine v_ 4 25 (.bool true) c λc=>?_;simp only[Act.put,aT,aZ,aS];refine v_ 5 26 (.bool true) c λc=>?_;simp only[Act.put,aT,aZ,aS];refine tkC 6 λK hK=>?_;change Oper.wp _ ⟨none,_,_,_,_,_⟩ _ _ _ _;refine j1_ 293 _ _ rfl z bo_ i 293 rfl rfl b1.o x.o (by rw[x.o];kernel_rfl) (o1.o) ?_;intro w8 af p;have a8:=q_ (show w8.heap[m]?=some (cz_ i)/\w8.heap[X]?=some (cz_ j) from ⟨p.heap s1.o.1 (by have:=J.o;omega),p.heap s1.o.2 (by have:=J.o;omega)⟩);have b5:=q_ (show w8.heap[(z+1)]?=some (cz_ bo_) from p.heap (show U.drew.heap[(z+1)]?=_ from b4.o) (by omega));refine hK.out _ _ a8.o λc=>?_;clear hK K;(try simp only[Act.put]);refine tkC 7 λK hK=>?_;change Oper.wp _ ⟨none,_,_,_,_,_⟩ _ _ _ _;refine j1_ 293 _ _ rfl (z+1) bo_ j 293 rfl rfl b5.o y.o (by rw[y.o];kernel_rfl) (o2.o) ?_;intro V ag k;have b9:=q_ (show V.heap[m]?=some (cz_ i)/\V.heap[X]?=some (cz_ j) from ⟨k.heap a8.o.1 (by have:=J.o;omega),k.heap a8.o.2 (by have:=J.o;omega)⟩);have ba:=q_ (show V.heap[z]?=some (cz_ i) from k.heap af (by omega));have b6:=q_ (show Turn (λb=>b=z\/b=z+1) U V from (show Turn _ U U.drew from (Turn.refl _ _).drew).trans ((p.mono (λb _ h=>by have h:b=z:=h;omega)).andThen (k.mono (S':=λb=>b=z\/b=z+1) (λb _ h=>by have h:b=(z+1):=h;omega)) (λb _ h=>h)));have b2:=q_ ag;refine hK.out _ _ b9.o λc=>?_;clear hK K af p ag k;(try simp only[Act.put]);refine v_ 8 6 (.bool true) c λc=>?_;simp only[Act.put,aT,aZ,aS];refine⟨wpAnyH_done (by kernel_rfl) ?_ _⟩;clear c;go_wp2_with fail;have b7:=run_loadVar_row (P:=Tryz.prog) V z 293 293 i (0,0) _ ba.o Tryz.underlying293 rfl (by rw[x.o];kernel_rfl);have b0:=run_loadVar_row (P:=Tryz.prog) V (z+1) 293 293 j (0,0) _ b2.o Tryz.underlying293 rfl (by rw[y.o];kernel_rfl);refine bodyPost_ret (v:=.tuple #[.agg i,.agg j,.bool true]) (by simp[results,Tryz.results264,asAddr,b7,b0]) rfl ⟨f,g,by rw[aq.o,ah.o,ad.o,ap.o],?_,az.o,b3.o⟩;exact ab.o.trans (b6.o.below (λb _ h=>by have:=Hz.o;omega) ab.o.size)
end
end Go.Proofs.YtefhfadjajcmkaaGreatDoor
