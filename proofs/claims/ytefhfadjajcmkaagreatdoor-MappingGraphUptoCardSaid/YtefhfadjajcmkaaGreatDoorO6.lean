/- Rows of plain elements: one is stored. (Parts of YO.) -/
import Derived.Maps.AppendAt
import Derived.Test.YtefhfadjajcmkaaGreatDoorO5
import Derived.Shelf.Slices.In.SortNone
set_option linter.unusedVariables false
set_option linter.unusedSimpArgs false
set_option maxRecDepth 100000
set_option maxHeartbeats 64000000
namespace Go.Proofs.YtefhfadjajcmkaaGreatDoor
open _root_.Go.Proofs.Tryz
open Go.Act renaming put→VK
open Go.Instr renaming buildSlice→UQ
open Bool renaming and_eq_true→YW
open Go.IntWalk renaming i64_in→YU
open Go.Ending renaming returned→YQ
open Go.RowKit renaming Below→XW
open Go.RowKit.Below renaming refl→XV
open Nat renaming lt_of_lt_of_le→XZ,le_refl→XK,le_trans→ZX,zero_add→VQ
open Go.Obj renaming cells→XX
open List renaming getElem?_eq_getElem→XQ,mem_of_getElem?→YZ,take_of_length_le→YJ,length_append→ZZ,getElem?_eq_none→ZK,length_take→UJ,eq_nil_of_length_eq_zero→UK,append_assoc→UW
open _root_.Go.Proofs.Tryz renaming prog→QW,underlying39→YV
open Go renaming World→QV,Value→XJ,heap_alloc_new→XU,wp_region_held_drew→UZ,cell_of_row→UU,wpAnyH_done→VX
open Go.IntKind renaming i64→QU
open Option renaming some→QJ,none→QK
open Go.Lib renaming cell_of_heap→QX,frozen_of_heap→YY
open Go.Value renaming slice→QQ,string→QZ,int→QY,bool→XY,pointer→YK,tuple→ZJ
open Go.Lib (cell_of_heap)
section
open Go Go.RowKit Go.Maps
theorem nz_ {w0 w w':QV} {S:Nat->Prop} (hb:XW w0.heap.size w0 w) (ht:Turn S w w') (e:∀b,S b->w0.heap.size<=b):XW w0.heap.size w0 w':=
 hb.trans ⟨ht.os,ht.tape,ht.output,ht.size,λk f=>ht.block k (XZ f hb.size) (λh=>by have:=e k h;omega)⟩
structure e1_ {α : Type} (sz:Nat) (R:α -> Array XJ->Prop):Prop where
 size:∀{x:α} {c:Array XJ},R x c->c.size=sz
 one:∀{x:α} {c:Array XJ},R x c->∀u∈c.toList,u.oneCell'=true
abbrev ofP {α : Type} (R:α -> Array XJ->Prop):bu_ α:=λ_ _ x c=>R x c
theorem ofP.good {α : Type} (R:α -> Array XJ->Prop):(ofP R).Good:=⟨λh _=>h,λh _=>h⟩
def c0_ {α : Type} (E:TypeId) (sz:Nat) (R:α -> Array XJ->Prop) (w:QV) (l:List α) (v:XJ):Prop:=
 ∃cs:Nat->Array XJ,w.ownsRow 0 E sz v l.length (R_ cs l.length)/\∀i x,l[i]?=QJ x->R x (cs i)
section
variable {α : Type} {E:TypeId} {sz:Nat} {R:α -> Array XJ->Prop} {w w':QV} {F:Nat->Prop} {l l2:List α} {v:XJ} {A:Option Addr} {n:Nat}
theorem c0_.nil (E:TypeId) (sz:Nat) (R:α -> Array XJ->Prop) (w:QV):c0_ E sz R w [] (QQ QK 0 0):=⟨λ_=>#[],World.ownsRow_nil _ _ _ _,λi x b=>by simp at b⟩
theorem c0_.turn (h:c0_ E sz R w l v) {S:Nat->Prop} (ht:Turn S w w') (f:∀b,v.ownBlock=QJ b->¬S b):c0_ E sz R w' l v:=by obtain⟨cs,e,r⟩:=h;exact⟨cs,ht.owns e f,r⟩
theorem c0_.lt (h:c0_ E sz R w l v) {b:Nat} (hb:v.ownBlock=QJ b):b<w.heap.size:=by obtain⟨cs,e,x⟩:=h;obtain⟨r,f⟩:=ey_ e hb;exact b_ f
theorem c0_.on (h:c0_ E sz R w l v) (hb:XW w.heap.size w w'):c0_ E sz R w' l v:=
 h.turn (Turn.of_below hb) λb f e=>by have e:w.heap.size<=b:=e;have:=h.lt f;omega
theorem c0_.form (h:c0_ E sz R w l v):∃A cap,v = QQ A l.length cap/\l.length<=cap/\(A=QK->cap=0):=by
 obtain⟨cs,b,_⟩:=h;rcases b.2 with⟨h0,h1⟩ | ⟨g,cp,e,h0,_,_,h1,_⟩
 ·exact⟨QK,0,by rw[h0,h1],by omega,λ_=>rfl⟩
 ·exact⟨_,cp,h0,h1,λh=>by cases h⟩
theorem c0_.rd {cap:Nat} (J:e1_ sz R) (h:c0_ E sz R w l (QQ A n cap)) (I:∀b,(Value.slice A n cap).ownBlock=QJ b->F b) (f:l.length=n):SRd sz (ofP R) w F l A n:=by
 obtain⟨cs,e,C⟩:=h;subst f;refine⟨rfl,λf=>?_⟩;obtain⟨g,cp,r,_,_⟩:=e.form f;injection r with r _ hcp;subst r;subst hcp;have z:∀i,i<l.length->(cs i).size=sz:=λi hi=>J.size (C i _ (XQ hi));refine⟨⟨g,0,QK⟩,rfl,I g rfl,λi x D=>?_⟩;have hi:=c3_ D;refine⟨cs i,z i hi,λj L=>?_,C i x D⟩;have B:i*sz+j<l.length*sz:=by have h1:(i+1)*sz<=l.length*sz:=Nat.mul_le_mul_right sz (by omega);rw[Nat.succ_mul]at h1;omega
 have h1:=e.cellAt (i*sz+j) B;rw[cr_ z hi L]at h1;rw[Addr.add_mid,VQ];exact h1
theorem SRd.part (h:SRd sz (ofP R) w F l A n) {lo hi:Nat} (h1:lo<=hi) (h2:hi<=n):SRd sz (ofP R) w F ((l.drop lo).take (hi-lo)) (A.map (·.add (lo*sz))) (hi-lo):=by refine⟨by rw[UJ,List.length_drop,<-h.1];omega,λJ=>?_⟩;obtain⟨ad,e,C,D⟩:=h.2 (by omega);refine⟨ad.add (lo*sz),by rw[e];rfl,by rw[block_of_add];exact C,λi x b=>?_⟩;have f:=(List.getElem?_eq_some_iff.1 b).1;rw[UJ]at f;rw[List.getElem?_take_of_lt (by omega),List.getElem?_drop]at b;obtain⟨c,r,z,B⟩:=D _ _ b;refine⟨c,r,λj I=>?_,B⟩;rw[add_of_add,<-z j I,Nat.add_mul,Nat.add_assoc]
theorem SRd.cells {ad:Addr} (I:e1_ sz R) (h:SRd sz (ofP R) w F l (QJ ad) n):∃cs:Nat->Array XJ,(∀i x,l[i]?=QJ x->R x (cs i))/\∀j u,(R_ cs n)[j]?=QJ u->w.cell? (ad.add j)=QJ u:=by
 classical
 have b:∀i,∃c:Array XJ,∀x,l[i]?=QJ x->R x c/\∀j,j<sz->w.cell? (ad.add (i*sz+j))=c[j]?:=λi=>by
  cases hi:l[i]? with
  | none=>exact⟨#[],λx h=>by cases h⟩
  | some x=>
   obtain⟨J,c,e,_,h1,h2,D⟩:=h.at_ hi;injection e with e;subst e;exact⟨c,λy r=>by injection r with r;subst r;exact⟨D,h2⟩⟩
 refine⟨λi=>(b i).choose,λi x hi=>((b i).choose_spec x hi).1,λj u f=>?_⟩;have z:∀i,i<n->((b i).choose).size=sz:=λi hi=>I.size ((b i).choose_spec _ (XQ (by rw[<-h.1];exact hi))).1;have B:=(List.getElem?_eq_some_iff.1 f).1;rw[ap_ z]at B;rcases Nat.eq_zero_or_pos sz with h0 | h0
 ·subst h0;omega
 ·have hi:j / sz<n:=(Nat.div_lt_iff_lt_mul h0).2 B;have C:j % sz<sz:=Nat.mod_lt _ h0;have e:j=(j / sz)*sz+j % sz:=by rw[Nat.mul_comm];exact (Nat.div_add_mod j sz).symm
  rw[e,cr_ z hi C]at f;rw[e,((b _).choose_spec _ (XQ (by rw[<-h.1];exact hi))).2 _ C];exact f
theorem Ds_ (cs ds:Nat->Array XJ) (n m:Nat):R_ cs n++R_ ds m=R_ (λi=>if i<n then cs i else ds (i-n)) (n+m):=by
 induction m with
 | zero=>
  rw[Nat.add_zero,show R_ ds 0=[] from rfl,List.append_nil];exact gf_ λi hi=>(iP_ hi).symm
 | succ m b=>
  rw[dt_,<-UW,b,<-Nat.add_assoc,dt_];congr 2
  rw[iN_ (by omega),Nat.add_sub_cancel_left]
end
theorem Eq_ {α : Type} {P:Program} {E:TypeId} {sz bytes:Nat} {R:α -> Array XJ->Prop} (I:e1_ sz R) (t ty:TypeId) (i:TypeInfo) (z:XJ) (ht:P.underlying t=QJ (.slice E)) (hi:P.info? E=QJ i) (hz:i.zero=QJ z)
    (B:i.size=sz) (U:i.bytes=bytes) (Y:z.cells.size=sz) (X:0<sz) {w:QV} {F:Nat->Prop} {l l2:List α} {v:XJ} {A:Option Addr} {n m c:Nat} (h:c0_ E sz R w l v) (hn:l.length=n) (h2:SRd sz (ofP R) w F l2 A m) (hc:A=QK->c=0)
    (M:n+m<=1000000000) (O:bytes<=100000) :
    ∃v' w',(Builtin.append_ #[t,t] ty #[v,QQ A m c]).run P w = .ok v' w'/\c0_ E sz R w' (l++l2) v'/\w.grownBy w' v.ownBlock/\(v'.ownBlock=v.ownBlock\/v'.ownBlock=QJ w.heap.size):=by
 subst hn;obtain⟨cs,b,W⟩:=h;have hm:m=l2.length:=h2.1
 cases A with
 | none=>
  have h0:m=0:=by
   rcases Nat.eq_zero_or_pos m with h | h
   ·exact h
   ·obtain⟨_,e,_⟩:=h2.2 h;cases e
  have Z:l2=[]:=UK (by omega);subst Z;rw[hc rfl,h0];refine⟨v,w,run_append_owned_none (P:=P) (w:=w) 0 t ty E i sz ht hi v _ _ b,?_,⟨rfl,rfl,rfl,XK _,λ_ _ _=>rfl⟩,.inl rfl⟩;rw[List.append_nil];exact⟨cs,b,W⟩
 | some ad=>
  obtain⟨ds,J,r⟩:=h2.cells I;have h6:∀i,i<m->(ds i).size=sz:=λi hi=>I.size (J i _ (XQ (by omega)))
  have L:∀u∈R_ ds m,u.oneCell'=true:=λu C=>by
   unfold R_ at C;obtain⟨i,hi,C⟩:=List.mem_flatMap.1 C;rw[List.mem_range]at hi;exact I.one (J i _ (XQ (by omega))) u C
  have f:(l.length+m)*bytes<=140737488355328:=ZX (Nat.mul_le_mul M O) (by decide);obtain⟨v',w',h1,h3,h4,_,h5⟩:=run_append_own_at (P:=P) w 0 t ty E i z sz bytes ht hi hz B U Y X v l.length _ b ad m c (R_ ds m) (ap_ h6) r L (by unfold maxLen;omega) f (Nat.zero_le _);refine⟨v',w',h1,⟨λi=>if i<l.length then cs i else ds (i-l.length),?_,λi x D=>?_⟩,h4,h5⟩
  ·rw[ZZ,<-hm,<-Ds_];exact h3
  ·dsimp only;split
   ·rename_i V;rw[List.getElem?_append_left V]at D;exact W i x D
   ·rename_i a0;rw[List.getElem?_append_right (by omega)]at D;exact J _ x D
theorem J3_ {α : Type} {P:Program} {E:TypeId} {sz bytes:Nat} {R:α -> Array XJ->Prop} (L:e1_ sz R) {op:Oper} {a:Act} {K:Act->QV->Prop} {Q:Exit->Act->QV->Prop} (s x:Operand) (t:TypeId) (V:op.op = .call { callee:=.builtin .append,args:=#[s,x],argTypes:=#[t,t] })
    (i:TypeInfo) (z:XJ) (ht:P.underlying t=QJ (.slice E)) (hi:P.info? E=QJ i) (hz:i.zero=QJ z)
    (b:i.size=sz) (r:i.bytes=bytes) (C:z.cells.size=sz) (B:0<sz) {w:QV} {F:Nat->Prop} {l l2:List α} {v:XJ} {A:Option Addr} {n m c:Nat} (W:a.eval s=v) (h:c0_ E sz R w l v) (U:l.length=n) (X:a.eval x = QQ A m c) (h2:SRd sz (ofP R) w F l2 A m) (M:A=QK->c=0)
    (e:n+m<=1000000000) (f:bytes<=100000)
    (O:∀v' w',c0_ E sz R w' (l++l2) v'->w.grownBy w' v.ownBlock->(v'.ownBlock=v.ownBlock\/v'.ownBlock=QJ w.heap.size)->K (a.put op.dst v') w'):op.wp P a w K Q:=by
 obtain⟨v',w',h1,D,I,J⟩:=Eq_ (P:=P) L t op.type i z ht hi hz b r C B h U h2 M e f;unfold Oper.wp execOp;simp only[V,resolve,invoke,builtin,Sem.run_bind,Sem.run_pure,Result.andThen_ok,List.map_toArray,List.map_cons,List.map_nil,W,X,h1];exact O v' w' D I J
theorem ae_ {α : Type} {P:Program} {E:TypeId} {sz bytes:Nat} {R:α -> Array XJ->Prop} (M:e1_ sz R) {ops:Array Oper} {rest:List Oper} {op:Oper} {a:Act} {Q:Exit->Act->QV->Prop} (B:op.guard=QK) (s x:Operand) (t:TypeId) (W:op.op = .call { callee:=.builtin .append,args:=#[s,x],argTypes:=#[t,t] })
    (i:TypeInfo) (z:XJ) (ht:P.underlying t=QJ (.slice E)) (hi:P.info? E=QJ i) (hz:i.zero=QJ z)
    (b:i.size=sz) (r:i.bytes=bytes) (D:z.cells.size=sz) (C:0<sz) {w:QV} {F:Nat->Prop} {l l2:List α} {v:XJ} {A:Option Addr} {n m c:Nat} (X:a.eval s=v) (h:c0_ E sz R w l v) (V:l.length=n) (Y:a.eval x = QQ A m c) (h2:SRd sz (ofP R) w F l2 A m) (O:A=QK->c=0)
    (e:n+m<=1000000000) (f:bytes<=100000)
    (U:∀v' w',c0_ E sz R w' (l++l2) v'->w.grownBy w' v.ownBlock->(v'.ownBlock=v.ownBlock\/v'.ownBlock=QJ w.heap.size)->wpList P ops Q rest (a.put op.dst v') w'):wpList P ops Q (op::rest) a w:=
 wpList_plain B λ_ L=>J3_ M s x t W i z ht hi hz b r D C X h V Y h2 O e f λv' w' h1 I J=>L _ _ (U v' w' h1 I J)
theorem no_ {α : Type} {sz:Nat} {R:α -> Array XJ->Prop} (f:e1_ sz R) {x:α} {c:Array XJ} (h:R x c) (w:QV) (T:TypeId):SRd sz (ofP R) (w.alloc (XX c T)) (λb=>b=w.heap.size) [x] (QJ ⟨w.heap.size,0,QK⟩) 1:=
 ⟨rfl,λ_=>⟨_,rfl,rfl,λi y e=>by
  have hi:i=0:=by have:=(List.getElem?_eq_some_iff.1 e).1;simp at this;omega
  subst hi;simp at e;subst e;refine⟨c,f.size h,λj r=>?_,h⟩;rw[Addr.add_mid,Nat.zero_mul,VQ,VQ];exact UU _ _ _ _ _ _ (XU w _)⟩⟩
theorem mn_ {α : Type} {P:Program} {E:TypeId} {sz bytes:Nat} {R:bu_ α} (hR:R.Good) {op:Oper} {a:Act} {K:Act->QV->Prop} {Q:Exit->Act->QV->Prop} (s x:Operand) (t:TypeId) (ho:op.op = .call { callee:=.builtin .append,args:=#[s,x],argTypes:=#[t,t] })
    (z:XJ) (ht:P.underlying t=QJ (.slice E)) (hi:(P.info? E).map (λi=>(i.zero,i.size,i.bytes))=QJ (QJ z,sz,bytes)) (a0:z.cells.size=sz) (W:0<sz) (J:bytes<=1000)
    {wr:QV} {F G:Nat->Prop} {L:List α} {S:XJ} {B:α} {c:Array XJ} {n:Nat} (hS:a.eval s=S) (C:x_ E sz R wr F L S) (hL:L.length=n) (hx:a.eval x = QQ (QJ ⟨wr.heap.size,0,QK⟩) 1 1) (hc:R wr G B c) (r:c.size=sz) (O:∀u∈c.toList,u.oneCell'=true) (a1:n<=1000000000) (hF:∀b,F b->b<wr.heap.size) (hG:∀b,G b->b<wr.heap.size) (I:∀b,G b->S.ownBlock≠QJ b)
    (h:∀g cap w',x_ E sz R w' (λb=>F b\/G b\/b=g) (L++[B]) (QQ (QJ ⟨g,0,QK⟩) (n+1) cap)->wr.grownBy w' S.ownBlock->(S.ownBlock=QJ g\/wr.heap.size<=g)->g<w'.heap.size->K (a.put op.dst (QQ (QJ ⟨g,0,QK⟩) (n+1) cap)) w') :
    op.wp P a (wr.alloc (XX c E)) K Q:=by
 subst hL;obtain⟨i0,hi,X,Y,Z⟩:=info_parts hi;obtain⟨cs,f,h6,D,hr⟩:=C;have M:(L.length+1)*bytes<=140737488355328:=ZX (Nat.mul_le_mul (show L.length+1<=1000000001 by omega) J) (by decide);refine wp_append_lies _ s x t ho 0 E i0 z sz bytes ht hi X Y Z a0 W S L.length (R_ cs L.length) hS (f.alloc _) ⟨wr.heap.size,0,QK⟩ 1 1 c.toList hx (by rw[Array.length_toList,r,Nat.one_mul]) (World.news_of_block (XU wr _)) O (by omega) (by unfold maxLen;omega) M (Nat.zero_le _) (wr.heap.size+1) (by simp) λg cap w' h1 h2 h3 h4=>?_;have U:=ak_ h2;have V:S.ownBlock=QJ g\/wr.heap.size<=g:=h3.imp id (λe=>by rw[e];omega);exact h g cap w' (x_.snoc (x:=B) (c:=c) (G:=G) hR ⟨cs,f,h6,D,hr⟩ hc r I hF hG (λa2 h'=>by rw[pb_ h' f];exact h1) U V) U V h4
theorem vw_ {α : Type} {P:Program} {E:TypeId} {sz bytes:Nat} {R:bu_ α} (hR:R.Good) {ops:Array Oper} {rest:List Oper} {op:Oper} {a:Act} {Q:Exit->Act->QV->Prop} (J:op.guard=QK) (s x:Operand) (t:TypeId) (ho:op.op = .call { callee:=.builtin .append,args:=#[s,x],argTypes:=#[t,t] })
    (z:XJ) (ht:P.underlying t=QJ (.slice E)) (hi:(P.info? E).map (λi=>(i.zero,i.size,i.bytes))=QJ (QJ z,sz,bytes)) (O:z.cells.size=sz) (M:0<sz) (C:bytes<=1000)
    {wr:QV} {F G:Nat->Prop} {L:List α} {S:XJ} {r:α} {c:Array XJ} {n:Nat} (hS:a.eval s=S) (f:x_ E sz R wr F L S) (Z:L.length=n) (hx:a.eval x = QQ (QJ ⟨wr.heap.size,0,QK⟩) 1 1) (hc:R wr G r c) (I:c.size=sz) (D:∀u∈c.toList,u.oneCell'=true) (e:n<=1000000000) (W:∀b,F b->b<wr.heap.size) (X:∀b,G b->b<wr.heap.size) (B:∀b,G b->S.ownBlock≠QJ b)
    (h:∀g cap w',x_ E sz R w' (λb=>F b\/G b\/b=g) (L++[r]) (QQ (QJ ⟨g,0,QK⟩) (n+1) cap)->wr.grownBy w' S.ownBlock->(S.ownBlock=QJ g\/wr.heap.size<=g)->g<w'.heap.size->wpList P ops Q rest (a.put op.dst (QQ (QJ ⟨g,0,QK⟩) (n+1) cap)) w') :
    wpList P ops Q (op::rest) a (wr.alloc (XX c E)):=
 wpList_plain J λ_ Y=>mn_ hR s x t ho z ht hi O M C hS f Z hx hc I D e W X B λg cap w' h1 h2 U V=>Y _ _ (h g cap w' h1 h2 U V)
theorem Oa_ {α : Type} {sz:Nat} {R:α -> Array XJ->Prop} (f:e1_ sz R) {x y:α} {c d:Array XJ} (h:R x c) (k:R y d) (w:QV) (T:TypeId):SRd sz (ofP R) (w.alloc (XX (c++d) T)) (λb=>b=w.heap.size) [x,y] (QJ ⟨w.heap.size,0,QK⟩) 2:=by obtain⟨A,cap,e,_,r⟩:=vm_ (R:=ofP R) (F:=λb=>b=w.heap.size) (XU w (XX (c++d) T)) (f.size h) (f.size k) rfl h k;injection e with e;rw[<-e]at r;exact r
abbrev CV6:g_->Array XJ->Prop:=λv c=>af_ v/\cg_ v/\∃A cap,c=c_ v (QQ A 0 cap)
theorem jd_:e1_ 6 CV6:=⟨fun⟨_,_,A,cap,e⟩=>by rw[e];rfl,fun⟨h1,h2,A,cap,e⟩ u hu=>by
 have:=wt_ ⟨_,QQ A 0 cap,h1,h2,⟨A,cap,rfl⟩⟩ u;unfold wr_ at this;rw[e]at hu;exact this hu⟩
theorem Ei_ {w:QV} {l:List g_} {s:XJ} (h:c0_ 39 6 CV6 w l s):x_ 39 6 v3_ w (λb=>s.ownBlock=QJ b) l s:=by obtain⟨cs,e,f⟩:=h;exact⟨cs,e,λi hi=>jd_.size (f i _ (XQ hi)),λg r=>r,λi x z=>f i x z⟩
theorem E1_ {w:QV} {F:Nat->Prop} {l:List g_} {s:XJ} (h:x_ 39 6 v3_ w F l s):c0_ 39 6 CV6 w l s:=by obtain⟨cs,b,_,_,e⟩:=h;exact⟨cs,b,λi x f=>e i x f⟩
theorem sw_:(Tryz.prog.info? 39).map (λi=>(i.zero,i.size,i.bytes))=QJ (QJ (.agg #[QY QU 0,XY false,QY QU 0,QZ ⟨#[]⟩,QZ ⟨#[]⟩,QQ QK 0 0]),6,80):=by kernel_rfl
theorem sv_:(Tryz.prog.info? 72).map (λi=>(i.zero,i.size,i.bytes))=QJ (QJ (.agg #[QY QU 0,QQ QK 0 0,QQ QK 0 0]),3,56):=by kernel_rfl
theorem su_:(Tryz.prog.info? 74).map (λi=>(i.zero,i.size,i.bytes))=QJ (QJ (.agg #[QY QU 0,QY QU 0,QY QU 0,QZ ⟨#[]⟩,QQ QK 0 0]),5,64):=by kernel_rfl
theorem Gg_ (b e f h r a5 x b1 b2 b3 b4 z:XJ) (w:QV):(UQ 37 2 #[(0,.agg #[b,e,f,h,r,a5]),(1,.agg #[x,b1,b2,b3,b4,z])]).run QW w = .ok (QQ (QJ ⟨w.heap.size,0,QK⟩) 2 2) (w.alloc (XX (#[b,e,f,h,r,a5]++#[x,b1,b2,b3,b4,z]) 39)):=by kernel_rfl
theorem Kr_ (c d:Array XJ) (b:c.size=6) (e:d.size=6) (w:QV):(UQ 37 2 #[(0,.agg c),(1,.agg d)]).run QW w = .ok (QQ (QJ ⟨w.heap.size,0,QK⟩) 2 2) (w.alloc (XX (c++d) 39)):=by
 cases c with
 | mk l=>
  cases d with
  | mk m=>
   match l,b,m,e with
   | [a0,a1,a2,a3,a4,a5],_,[b0,b1,b2,b3,b4,b5],_=>exact Gg_ a0 a1 a2 a3 a4 a5 b0 b1 b2 b3 b4 b5 w
theorem wc_ (b L P:XJ) (w:QV):(UQ 51 1 #[(0,.agg #[b,L,P])]).run QW w = .ok (QQ (QJ ⟨w.heap.size,0,QK⟩) 1 1) (w.alloc (XX #[b,L,P] 72)):=by kernel_rfl
theorem wb_ (a b c d e:XJ) (w:QV):(UQ 52 1 #[(0,.agg #[a,b,c,d,e])]).run QW w = .ok (QQ (QJ ⟨w.heap.size,0,QK⟩) 1 1) (w.alloc (XX #[a,b,c,d,e] 74)):=by kernel_rfl
def bv_ (D:List g_):List i_:=D.mapIdx λi v=>U_ (i:Nat) v
theorem n7_ (D:List g_) (v:g_):bv_ (D++[v])=bv_ D++[U_ (D.length:Nat) v]:=by unfold bv_;rw[List.mapIdx_append];simp
theorem qv_ (D:List g_):(bv_ D).length=D.length:=by unfold bv_;simp
noncomputable def c2_ (D:List g_) (T:List e_):List l_:=T.mapIdx λi t=>⟨(i:Nat),bb_ D t.s,bb_ D t.o,t.p.text,[]⟩
theorem n2_ (D:List g_) (T:List e_) (t:e_):c2_ D (T++[t])=c2_ D T++[⟨(T.length:Nat),bb_ D t.s,bb_ D t.o,t.p.text,[]⟩]:=by unfold c2_;rw[List.mapIdx_append];simp
theorem qb_ (D:List g_) (T:List e_):(c2_ D T).length=T.length:=by unfold c2_;simp
theorem Bw_ (T:List e_):bn_ T=⟨bv_ (ab_ T),c2_ (ab_ T) T⟩:=rfl
structure GnM (w2:QV) (m zg:Nat) (ns:List i_) (N:XJ) (wx:QV):Prop where
 t:Turn (λi=>i=m\/zg<=i) w2 wx
 box:wx.heap[zg]?=QJ (XX #[N,QQ QK 0 0] 54 (0,0))
 own:x_ 72 3 NoR wx (λb=>zg<b/\b<wx.heap.size) ns N
 hm:m<zg
section
variable {w2 wx w':QV} {m zg:Nat} {ns:List i_} {N N':XJ} {es:List l_} {E E':XJ}
theorem GnM.on (h:GnM w2 m zg ns N wx) (hb:XW wx.heap.size wx w'):GnM w2 m zg ns N w':=
 ⟨h.t.trans (Turn.ofB hb),(hb.block zg (b_ h.box)).trans h.box,(h.own.turn NoR.good (Turn.of_below hb) (λb hb=>hb.2) (λb hb e=>by have e:wx.heap.size<=b:=e;have:=hb.2;omega)).mono NoR.good (λb k=>⟨k.1,XZ k.2 hb.size⟩),h.hm⟩
theorem GnM.map (h:GnM w2 m zg ns N wx) (ht:Turn (λi=>i=m) wx w'):GnM w2 m zg ns N w':=by have hm:=h.hm;exact⟨h.t.trans (ht.mono λi _ e=>.inl e),(ht.block zg (b_ h.box) (λe=>by have e:zg=m:=e;omega)).trans h.box,(h.own.turn NoR.good ht (λb hb=>hb.2) (λb hb e=>by have e:b=m:=e;have:=hb.1;omega)).mono NoR.good (λb k=>⟨k.1,XZ k.2 ht.size⟩),h.hm⟩
theorem GnM.blk (h:GnM w2 m zg ns N wx) {b:Nat} (hb:N.ownBlock=QJ b):zg<b/\b<wx.heap.size:=by obtain⟨_,_,_,e,_⟩:=h.own;exact e b hb
theorem GnM.more {w5:QV} {g n cap:Nat} {x:i_} {G:Nat->Prop} (h:GnM w2 m zg ns N wx) (f:∀b,G b->zg<b/\b<wx.heap.size) (r:wx.grownBy w5 N.ownBlock) (z:N.ownBlock=QJ g\/wx.heap.size<=g) (D:g<w5.heap.size)
    (B:x_ 72 3 NoR w5 (λb=>(zg<b/\b<wx.heap.size)\/G b\/b=g) (ns++[x]) (QQ (QJ ⟨g,0,QK⟩) n cap))
    (C:w'.heap[zg]?=QJ (XX #[QQ (QJ ⟨g,0,QK⟩) n cap,QQ QK 0 0] 54 (0,0))) (ht:Turn (λb=>b=zg) w5 w'):GnM w2 m zg (ns++[x]) (QQ (QJ ⟨g,0,QK⟩) n cap) w':=by
 have hb:=b_ h.box;refine⟨(h.t.trans ((Turn.of_grown r).mono λi _ e=>.inr (Nat.le_of_lt (h.blk e.symm).1))).trans (ht.mono λi _ e=>.inr (Nat.le_of_eq (show zg=i from Eq.symm e))),C,?_,h.hm⟩
 have I:zg<g:=by
  rcases z with e | e
  ·exact (h.blk e).1
  ·omega
 refine (B.turn NoR.good ht (λb k=>?_) (λb k e=>?_)).mono NoR.good λb k=>?_
 ·have:=r.size;rcases k with k | k | k
  ·omega
  ·have:=f b k;omega
  ·omega
 ·have e:b=zg:=e;rcases k with k | k | k
  ·omega
  ·have:=f b k;omega
  ·omega
 ·have:=r.size;have:=ht.size;rcases k with k | k | k
  ·omega
  ·have:=f b k;omega
  ·omega
end
structure GeM (w3:QV) (zg ze:Nat) (ns:List i_) (N:XJ) (es:List l_) (E:XJ) (wx:QV):Prop where
 t:Turn (λi=>i=zg\/ze<=i) w3 wx
 box:wx.heap[zg]?=QJ (XX #[N,E] 54 (0,0))
 nodes:x_ 72 3 NoR wx (λb=>zg<b/\b<ze) ns N
 own:x_ 74 5 EdR wx (λb=>ze<=b/\b<wx.heap.size) es E
 lt:zg<ze/\ze<=wx.heap.size
section
variable {w2 w3 wx w':QV} {m zg ze:Nat} {ns:List i_} {N N':XJ} {es:List l_} {E E':XJ}
theorem GnM.next (h:GnM w2 m zg ns N wx):GeM wx zg wx.heap.size ns N [] (QQ QK 0 0) wx:=⟨Turn.refl _ _,h.box,h.own,x_.nil ..,b_ h.box,XK _⟩
theorem GeM.on (h:GeM w3 zg ze ns N es E wx) (hb:XW wx.heap.size wx w'):GeM w3 zg ze ns N es E w':=by
 have f:=h.lt
 exact⟨h.t.trans (Turn.ofB hb),(hb.block zg (b_ h.box)).trans h.box,h.nodes.turn NoR.good (Turn.of_below hb) (λb k=>by omega) (λb k e=>by have e:wx.heap.size<=b:=e;omega),
  (h.own.turn EdR.good (Turn.of_below hb) (λb hb=>hb.2) (λb hb e=>by have e:wx.heap.size<=b:=e;have:=hb.2;omega)).mono EdR.good (λb k=>⟨k.1,XZ k.2 hb.size⟩),f.1,ZX f.2 hb.size⟩
theorem GeM.blk (h:GeM w3 zg ze ns N es E wx) {b:Nat} (hb:E.ownBlock=QJ b):ze<=b/\b<wx.heap.size:=by obtain⟨_,_,_,e,_⟩:=h.own;exact e b hb
theorem GeM.more {w5:QV} {g n cap:Nat} {r:l_} {G:Nat->Prop} (h:GeM w3 zg ze ns N es E wx) (f:∀b,G b->ze<=b/\b<wx.heap.size) (z:wx.grownBy w5 E.ownBlock) (C:E.ownBlock=QJ g\/wx.heap.size<=g) (J:g<w5.heap.size)
    (D:x_ 74 5 EdR w5 (λb=>(ze<=b/\b<wx.heap.size)\/G b\/b=g) (es++[r]) (QQ (QJ ⟨g,0,QK⟩) n cap))
    (I:w'.heap[zg]?=QJ (XX #[N,QQ (QJ ⟨g,0,QK⟩) n cap] 54 (0,0))) (ht:Turn (λb=>b=zg) w5 w'):GeM w3 zg ze ns N (es++[r]) (QQ (QJ ⟨g,0,QK⟩) n cap) w':=by
 have hb:=b_ h.box;have B:=h.lt;have O:=z.size;have M:=ht.size
 have L:ze<=g:=by
  rcases C with e | e
  ·exact (h.blk e).1
  ·omega
 have x:Turn (λi=>i=zg\/ze<=i) wx w':=((Turn.of_grown z).mono λi _ e=>.inr (h.blk e.symm).1).trans (ht.mono λi _ e=>.inl e);refine⟨h.t.trans x,I,h.nodes.turn NoR.good x (λb k=>by omega) (λb k e=>by rcases e with e | e<;>omega),?_,B.1,by omega⟩
 refine (D.turn EdR.good ht (λb k=>?_) (λb k e=>?_)).mono EdR.good λb k=>?_
 ·rcases k with k | k | k
  ·omega
  ·have:=f b k;omega
  ·omega
 ·have e:b=zg:=e;rcases k with k | k | k
  ·omega
  ·have:=f b k;omega
  ·omega
 ·rcases k with k | k | k
  ·omega
  ·have:=f b k;omega
  ·omega
end
structure oc_ (F:Nat->Prop) (w:QV) (cs:Nat->Array XJ) (T:List e_) (S:XJ):Prop where
 el:ElT T cs
 form:∃A cap,S = QQ A T.length cap/\T.length<=cap/\(0<T.length->∃r,A=QJ ⟨r,0,QK⟩/\F r/\∀a,a<T.length->∀j,j<18->w.cell? ⟨r,a*18+j,QK⟩=(cs a)[j]?)
def ob_ (F:Nat->Prop) (w:QV) (ix:List Nat) (s:XJ):Prop:=
 ∃A cap,s = QQ A ix.length cap/\ix.length<=cap/\(0<ix.length->∃r o,A=QJ ⟨r,o,QK⟩/\F r/\∀a k,ix[a]?=QJ k->w.cell? ⟨r,o+a,QK⟩=QJ (QY QU (k:Nat)))
section
variable {F F':Nat->Prop} {w w':QV} {cs:Nat->Array XJ} {T:List e_} {S s:XJ} {ix:List Nat}
theorem oc_.keep (h:oc_ F w cs T S) (C:∀p:Addr,F p.block->w'.cell? p=w.cell? p):oc_ F w' cs T S:=by obtain⟨h0,A,cap,e,h1,h2⟩:=h;refine⟨h0,A,cap,e,h1,λD=>?_⟩;obtain⟨r,f,b,z⟩:=h2 D;exact⟨r,f,b,λa x j B=>(C ⟨r,a*18+j,QK⟩ b).trans (z a x j B)⟩
theorem oc_.mono (h:oc_ F w cs T S) (z:∀b,F b->F' b):oc_ F' w cs T S:=by obtain⟨h0,A,cap,e,h1,h2⟩:=h;refine⟨h0,A,cap,e,h1,λC=>?_⟩;obtain⟨r,f,x,B⟩:=h2 C;exact⟨r,f,z _ x,B⟩
theorem ob_.keep (h:ob_ F w ix s) (B:∀p:Addr,F p.block->w'.cell? p=w.cell? p):ob_ F w' ix s:=by obtain⟨A,cap,e,h1,h2⟩:=h;refine⟨A,cap,e,h1,λC=>?_⟩;obtain⟨r,o,x,b,z⟩:=h2 C;exact⟨r,o,x,b,λa k f=>(B ⟨r,o+a,QK⟩ b).trans (z a k f)⟩
theorem ob_.mono (h:ob_ F w ix s) (z:∀b,F b->F' b):ob_ F' w ix s:=by obtain⟨A,cap,e,h1,h2⟩:=h;refine⟨A,cap,e,h1,λC=>?_⟩;obtain⟨r,o,f,x,B⟩:=h2 C;exact⟨r,o,f,z _ x,B⟩
end
structure i8_ (F:Nat->Prop) (w:QV) (c:Nat) (T:List e_):Prop where
 cells:∃(S:XJ) (ss:Nat->XJ) (cs:Nat->Array XJ),w.heap[c]?=QJ (XX #[S,ss 0,ss 1,ss 2,ss 3,ss 4,ss 5] 97 (0,0))/\oc_ F w cs T S/\∀j,j<6->∃ix:List Nat,mq_ (aa_ j) T ix/\ob_ F w ix (ss j)
 fc:F c
 scal:∀t,t∈T->cj_ t
 fit:∀t,t∈T->∀n,cg_ (t.get n)
 rise:j9_ (s_ (aa_ 0)) T
 len:T.length<=65536
theorem i8_.keep {F:Nat->Prop} {w w':QV} {c:Nat} {T:List e_} (h:i8_ F w c T) (e:∀b,F b->w'.heap[b]?=w.heap[b]?):i8_ F w' c T:=by obtain⟨S,ss,cs,h1,h2,r⟩:=h.cells;refine⟨⟨S,ss,cs,(e c h.fc).trans h1,h2.keep λp f=>World.cell?_of_block (e _ f),λj x=>?_⟩,h.fc,h.scal,h.fit,h.rise,h.len⟩;obtain⟨ix,q1,q2⟩:=r j x;exact⟨ix,q1,q2.keep λp f=>World.cell?_of_block (e _ f)⟩
def k6_ (L:List e_) (w:QV) (e:Ending) (w':QV):Prop:=
 (¬(L.length<=65536/\L.all ch_=true)/\e = YQ (ZJ #[YK QK,QY QU 20])/\XW w.heap.size w w') \/
 (L.length<=65536/\L.all ch_=true/\∃c,e = YQ (ZJ #[YK (QJ ⟨c,0,QK⟩),QY QU 0])/\XW w.heap.size w w'/\i8_ (λb=>w.heap.size<=b/\b<w'.heap.size) w' c (an_ (s_ (aa_ 0)) L))
def Me_ (ss:Nat->XJ) (j:Nat) (v:XJ):Nat->XJ:=λi=>if i=j then v else ss i
theorem u4_ (z j:Nat) (b:j<6) (w:QV):(Instr.indexAt 95 (YK (some ⟨z,1,none⟩)) (QY QU (j:Nat))).run QW w = .ok (YK (some ⟨z,1+j,none⟩)) w:=by rcases (show j=0\/j=1\/j=2\/j=3\/j=4\/j=5 by omega) with rfl | rfl | rfl | rfl | rfl | rfl<;>kernel_rfl
section
variable {w0 wx w':QV} {c:Nat} {S:XJ} {ss:Nat->XJ}
theorem LdM.cellJ (h:LdM w0 c S ss wx) {j:Nat} (b:j<6):wx.cell? ⟨c,1+j,none⟩=some (ss j):=by rcases (show j=0\/j=1\/j=2\/j=3\/j=4\/j=5 by omega) with rfl | rfl | rfl | rfl | rfl | rfl<;>exact QX h.pc _
theorem LdM.setJ (h:LdM w0 c S ss wx) {j:Nat} (r:j<6) (v:XJ):LdM w0 c S (Me_ ss j v) (wx.setCell ⟨c,1+j,none⟩ v):=by have ht:=(Turn.refl (λb=>b=c) wx).setCell (p:=⟨c,1+j,none⟩) (.inr rfl) v;refine⟨h.hb.trans ⟨ht.os,ht.tape,ht.output,ht.size,λk f=>ht.block k (XZ f h.hb.size) (λe=>by have:=h.c0;omega)⟩,h.c0,ht.heap h.ph (by show ¬c+1=c;omega),?_⟩;rcases (show j=0\/j=1\/j=2\/j=3\/j=4\/j=5 by omega) with rfl | rfl | rfl | rfl | rfl | rfl<;>exact heap_setCell_same wx c _ _ _ v h.pc
end
structure eq_ (c:Nat) (s:XJ) (ix:List Nat) (wx:QV):Prop where
 row:wx.ownsRow 0 3 1 s ix.length (ixC ix)
 blk:∀b,s.ownBlock=QJ b->c+2<=b/\b<wx.heap.size
theorem eq_.nil (c:Nat) (wx:QV):eq_ c (QQ none 0 0) [] wx:=⟨World.ownsRow_nil _ _ _ _,λb h=>by cases h⟩
theorem eq_.turn {c:Nat} {s:XJ} {ix:List Nat} {wx w':QV} (h:eq_ c s ix wx) {T:Nat->Prop} (ht:Turn T wx w') (e:∀b,s.ownBlock=QJ b->¬T b):eq_ c s ix w':=
 ⟨ht.owns h.row e,λb hb=>⟨(h.blk b hb).1,XZ (h.blk b hb).2 ht.size⟩⟩
theorem eq_.rd {c:Nat} {s:XJ} {ix:List Nat} {wx:QV} {F:Nat->Prop} (h:eq_ c s ix wx) (B:∀b,c+2<=b->b<wx.heap.size->F b):ob_ F wx ix s:=by
 rcases h.row.2 with⟨e,h0⟩ | ⟨g,cp,C,e,_,J,h1,h2,D,I⟩
 ·exact⟨QK,0,by rw[e,h0],by omega,λx=>absurd x (by omega)⟩
 ·refine⟨QJ ⟨g,0,QK⟩,cp,e,h1,λx=>⟨g,0,rfl,?_,λa k r=>?_⟩⟩
  ·obtain⟨q1,q2⟩:=h.blk g (by rw[e];rfl);exact B g q1 q2
  ·have hi:=(List.getElem?_eq_some_iff.1 r).1;have f:=h.row;rw[e]at f;have z:=f.cellAt a (by omega);rw[VQ,z];unfold ixC;rw[List.getElem?_map,r];rfl
structure LdX (w0:QV) (c:Nat) (S:XJ) (T:List e_) (ss:Nat->XJ) (zo:Nat) (j:Nat) (ixj:List Nat) (wx:QV):Prop where
 m:LdM w0 c S ss wx
 own:x_ 99 18 TrS wx (λb=>c+2<=b/\b<wx.heap.size) T S
 names:wx.heap[zo]?=QJ (XX #[QZ (gt_ 0),QZ (gt_ 1),QZ (gt_ 2),QZ (gt_ 3),QZ (gt_ 4),QZ (gt_ 5)] 9 (0,0))
 zo2:c+2<=zo
 rows:∀i,i<6->i≠j->∃ix,eq_ c (ss i) ix wx/\(i<j->mq_ (aa_ i) T ix)/\(j<i->ss i = QQ QK 0 0)
 rowj:j<6->eq_ c (ss j) ixj wx
 sep:∀i i',i<6->i'<6->i≠i'->∀b,(ss i).ownBlock=QJ b->(ss i').ownBlock≠QJ b
section
variable {w0 wx w':QV} {c zo j:Nat} {S:XJ} {T:List e_} {ss:Nat->XJ} {ixj:List Nat}
theorem LdX.sblk (h:LdX w0 c S T ss zo j ixj wx):∀b,S.ownBlock=QJ b->c+2<=b/\b<wx.heap.size:=by obtain⟨cs,_,_,e,_⟩:=h.own;exact e
theorem LdX.turn (h:LdX w0 c S T ss zo j ixj wx) {e:Nat->Prop} (ht:Turn e wx w') (h1:∀b,e b->c+2<=b) (h2:∀b,S.ownBlock=QJ b->¬e b) (C:¬e zo) (D:∀i,i<6->i≠j->∀b,(ss i).ownBlock=QJ b->¬e b) (I:j<6->eq_ c (ss j) ixj w'):LdX w0 c S T ss zo j ixj w':=by
 refine⟨h.m.turn ht h1,?_,ht.heap h.names C,h.zo2,λi hi f=>?_,I,h.sep⟩
 ·obtain⟨cs,r,J,z,L⟩:=h.own;exact⟨cs,ht.owns r h2,J,λg B=>⟨(z g B).1,XZ (z g B).2 ht.size⟩,λi x M=>L i x M⟩
 ·obtain⟨ix,q1,q2,O⟩:=h.rows i hi f;exact⟨ix,q1.turn ht (D i hi f),q2,O⟩
theorem LdX.on (h:LdX w0 c S T ss zo j ixj wx) (hb:XW wx.heap.size wx w'):LdX w0 c S T ss zo j ixj w':=by
 have x:=b_ h.m.ph;refine h.turn (Turn.of_below hb) (λb hb=>by have hb:wx.heap.size<=b:=hb;omega) (λb hb h2=>?_) (λh2=>?_) (λi hi f b hb h2=>?_) λr=>?_
 ·have:=(h.sblk b hb).2;have h2:wx.heap.size<=b:=h2;omega
 ·have:=b_ h.names;have h2:wx.heap.size<=zo:=h2;omega
 ·obtain⟨ix,q1,_⟩:=h.rows i hi f;have:=(q1.blk b hb).2;have h2:wx.heap.size<=b:=h2;omega
 ·exact (h.rowj r).turn (Turn.of_below hb) (λb e h2=>by have:=((h.rowj r).blk b e).2;have h2:wx.heap.size<=b:=h2;omega)
theorem LdX.drew (h:LdX w0 c S T ss zo j ixj wx):LdX w0 c S T ss zo j ixj wx.drew:=h.on (XV _ _).drew
theorem LdX.store {v:XJ} {ix':List Nat} {g:Nat} {wr B:QV} (h:LdX w0 c S T ss zo j ixj wr) (z:j<6) (hg:wr.grownBy B (ss j).ownBlock) (hl:(ss j).ownBlock=QJ g\/wr.heap.size<=g) (a1:g<B.heap.size) (O:v.ownBlock=QJ g) (ho:B.ownsRow 0 3 1 v ix'.length (ixC ix')) :
    LdX w0 c S T (Me_ ss j v) zo j ix' (B.setCell ⟨c,1+j,QK⟩ v):=by
 have r:=Turn.of_grown hg;have a4:c+2<=wr.heap.size:=by have:=b_ h.m.ph;omega
 have a0:c+2<=g:=by
  rcases hl with h1 | h1
  ·exact ((h.rowj z).blk g h1).1
  ·omega
 have I:∀i,i<6->i≠j->∀b,(ss i).ownBlock=QJ b->¬QJ b=(ss j).ownBlock:=λi hi f b hb e=>h.sep i j hi z f b hb e.symm;have a3:LdM w0 c S ss B:=h.m.turn r (λb hb=>((h.rowj z).blk b hb.symm).1);have ht:=(Turn.refl (λb=>b=c) B).setCell (p:=⟨c,1+j,QK⟩) (.inr rfl) v;refine⟨a3.setJ z v,?_,?_,h.zo2,λi hi f=>?_,λ_=>?_,λi M hi U C b hb=>?_⟩
 ·obtain⟨cs,L,h6,X,hr⟩:=h.own;have C:∀b,S.ownBlock=QJ b->¬QJ b=(ss j).ownBlock:=λb hb e=>jn_ L (h.rowj z).row (by decide) b e.symm hb;have Y:∀b,S.ownBlock=QJ b->¬b=c:=λb hb e=>by have:=(X b hb).1;omega
  exact⟨cs,ht.owns (r.owns L C) Y,h6,λq J=>⟨(X q J).1,XZ (XZ (X q J).2 r.size) ht.size⟩,λi x hx=>hr i x hx⟩
 ·have h7:B.heap[zo]?=_:=r.heap h.names (λe=>cm_ (h.rowj z).row h.names (by decide) e.symm);exact ht.heap h7 (by have:=h.zo2;omega)
 ·obtain⟨ix,q1,q2,q3⟩:=h.rows i hi f;refine⟨ix,?_,q2,λa2=>?_⟩
  ·show eq_ c (if i=j then v else ss i) ix _
   rw[iN_ f];exact (q1.turn r (I i hi f)).turn ht (λb hb e=>by have:=(q1.blk b hb).1;omega)
  ·show (if i=j then v else ss i)=_
   rw[iN_ f];exact q3 a2
 ·show eq_ c (if j=j then v else ss j) ix' _
  rw[iP_ rfl];refine⟨ht.owns ho (λb hb e=>?_),λb hb=>?_⟩
  ·rw[O]at hb;injection hb with hb;omega
  ·rw[O]at hb;injection hb with hb;subst hb;exact⟨a0,XZ a1 ht.size⟩
 ·have hb:(if i=j then v else ss i).ownBlock=QJ b:=hb
  show (if M=j then v else ss M).ownBlock≠QJ b
  have D:∀q,q<6->q≠j->(ss q).ownBlock≠QJ g:=λq J V e=>by
   rcases hl with h1 | h1
   ·exact h.sep q j J z V g e h1
   ·obtain⟨ix,q1,_⟩:=h.rows q J V;have:=(q1.blk g e).2;omega
  by_cases W:i=j
  ·rw[iP_ W,O]at hb;injection hb with hb;subst hb;rw[iN_ (by omega)];exact D M U (by omega)
  ·rw[iN_ W]at hb;by_cases Z:M=j
   ·rw[iP_ Z,O];intro e;injection e with e;subst e;exact D i hi W hb
   ·rw[iN_ Z];exact h.sep i M hi U C b hb
theorem LdX.next (h:LdX w0 c S T ss zo j ixj wx) (r:j<6) (x:mq_ (aa_ j) T ixj):LdX w0 c S T ss zo (j+1) [] wx:=by
 refine⟨h.m,h.own,h.names,h.zo2,λi hi z=>?_,λf=>?_,h.sep⟩
 ·by_cases e:i=j
  ·subst e;exact⟨ixj,h.rowj r,λ_=>x,λh=>by omega⟩
  ·obtain⟨ix,q1,q2,b⟩:=h.rows i hi e;exact⟨ix,q1,λh=>q2 (by omega),λh=>b (by omega)⟩
 ·obtain⟨ix,q1,q2,b⟩:=h.rows (j+1) f (by omega);rw[b (by omega)];exact eq_.nil c wx
theorem LdX.start {w0 wx:QV} {c:Nat} {S:XJ} {T:List e_} (h:LdT w0 c S T wx):LdX w0 c S T va_ wx.heap.size 0 [] (wx.alloc (XX #[QZ (gt_ 0),QZ (gt_ 1),QZ (gt_ 2),QZ (gt_ 3),QZ (gt_ 4),QZ (gt_ 5)] 9)):=by have hb:XW wx.heap.size wx (wx.alloc (XX #[QZ (gt_ 0),QZ (gt_ 1),QZ (gt_ 2),QZ (gt_ 3),QZ (gt_ 4),QZ (gt_ 5)] 9)):=(XV _ _).alloc (XK _) _;have h2:=h.on hb;have e:=b_ h.m.ph;exact⟨h2.m,h2.own,XU wx _,by omega,λi _ _=>⟨[],eq_.nil ..,λh=>by omega,λ_=>rfl⟩,λ_=>eq_.nil ..,λ_ _ _ _ _ b hb=>by cases hb⟩
theorem LdX.name (h:LdX w0 c S T ss zo j ixj wx) (b:j<6):wx.cell? ⟨zo,j,none⟩=some (QZ (gt_ j)):=by rcases (show j=0\/j=1\/j=2\/j=3\/j=4\/j=5 by omega) with rfl | rfl | rfl | rfl | rfl | rfl<;>exact QX h.names _
theorem LdX.stc {r n cap g:Nat} {W:Way} (h:LdX w0 c (QQ (QJ ⟨r,0,QK⟩) n cap) T ss zo j ixj wx) (B:wx.heap[g]?=QJ (XX (gs_ W) 101 (0,0))) :
    ∃cs,(∀a t,T[a]?=QJ t->cj_ t/\(∀n,cg_ (t.get n))/\∃ss,cs a=N_ t ss)/\StC (c+1) c r n cap g W cs wx:=by
 obtain⟨cs,e,f,_⟩:=Jg_ h.own;refine⟨cs,λa t ht=>?_,h.m.cellP,h.m.cellS,λa z q C=>?_,B⟩
 ·obtain⟨q1,q2,s,_,D⟩:=e a t ht;exact⟨q1,q2,s,D⟩
 ·obtain⟨b,h1,h2,x⟩:=f.blk;rw[UU wx r (a*18+q) b _ _ h1];exact x a z q C
theorem LdX.sorted {ix':List Nat} (h:LdX w0 c S T ss zo j ixj wx) (f:j<6) (ht:Turn (λb=>(ss j).ownBlock=QJ b) wx w') (J:w'.ownsRow 0 3 1 (ss j) ix'.length (ixC ix')):LdX w0 c S T ss zo j ix' w':=by
 have hb:LdX w0 c S T ss zo j ix' w':=by
  have I:LdX w0 c S T ss zo j ixj wx:=h;refine⟨h.m.turn ht (λb hb=>((h.rowj f).blk b hb).1),?_,ht.heap h.names (λe=>cm_ (h.rowj f).row h.names (by decide) e),h.zo2,λi hi z=>?_,λ_=>⟨J,λb hb=>⟨((h.rowj f).blk b hb).1,XZ ((h.rowj f).blk b hb).2 ht.size⟩⟩,h.sep⟩
  ·obtain⟨cs,r,D,B,L⟩:=I.own;exact⟨cs,ht.owns r (λb hb e=>jn_ r (h.rowj f).row (by decide) b e hb),D,λg C=>⟨(B g C).1,XZ (B g C).2 ht.size⟩,λi x M=>L i x M⟩
  ·obtain⟨ix,q1,q2,O⟩:=h.rows i hi z;exact⟨ix,q1.turn ht (λb hb e=>h.sep i j hi f z b hb e),q2,O⟩
 exact hb
theorem Ex_ {C:Option Addr} {x D g:Nat} (h:LdX w0 c (QQ C x D) T ss zo j (List.range x) wx) (L:j<6) (I:T.length=x) (M:x=0->ss j = QQ QK 0 0) (Z:wx.heap[g]?=QJ (XX (gs_ (aa_ j)) 101 (0,0))) (V:ad_ w0) (W:ci_ w0)
    (hs:∀t,t∈T->cj_ t) (Y:T.Nodup) (hn:x<=65536) :
    Calls QW 54 #[ss j,.func (.func 55) #[] #[YK (QJ ⟨c+1,0,QK⟩),YK (QJ ⟨g,0,QK⟩)]] wx λe w'=>e = YQ (ZJ #[])/\∃ix',mq_ (aa_ j) T ix'/\LdX w0 c (QQ C x D) T ss zo j ix' w':=by
 by_cases X:x=0
 ·subst X;have O:T=[]:=UK I;subst O;rw[M rfl];refine (AnyF.slices_SortFunc_none { Tryz.sortI with } QK 0 _ wx).mono λe w' ⟨J,hw⟩=>⟨J,[],⟨List.Perm.refl _,List.Pairwise.nil⟩,?_⟩;rw[hw];exact h
 ·obtain⟨r,rfl⟩:∃r,C=QJ ⟨r,0,QK⟩:=by obtain⟨cs,f,_⟩:=h.own;obtain⟨b,cp,e,_⟩:=World.ownsRow.form f (by omega);injection e with e _ _;exact⟨b,e⟩
  obtain⟨cs,U,a3⟩:=h.stc Z;have f:=(h.rowj L).row;have B:=(h.rowj L).blk;have a5:=h.m.c0;refine (A6_ (aa_ j) (eb_ j) T (c+1) c r x D g cs w0 I U f (λk hk=>List.mem_range.1 hk) (by simp;omega) (.inl (by omega)) a3 h.m.hb (λb hb=>by have:=(B b hb).1;omega) (λb hb=>?_) V W).mono λe w' ⟨J,ix',a0,a1,a2,ht⟩=>⟨J,ix',Os_ (eb_ j) hs Y (by rw[I];exact a0) a1,h.sorted L ht a2⟩;have h1:=(B b hb).1;refine⟨by omega,by omega,λe=>?_,λe=>?_⟩
  ·obtain⟨a4,z,_⟩:=h.own;exact jn_ z f (by decide) b hb (by rw[e];rfl)
  ·exact cm_ f Z (by decide) (by rw[hb,e])
theorem LdX.whole (h:LdX w0 c S T ss zo 6 ixj wx) (Y:∀t,t∈T->cj_ t) (W:∀t,t∈T->∀n,cg_ (t.get n)) (z:j9_ (s_ (aa_ 0)) T) (X:T.length<=65536):i8_ (λb=>w0.heap.size<=b/\b<wx.heap.size) wx c T:=by
 have h0:=h.m.c0;obtain⟨A,cap,rfl⟩:=h.own.form
 have f:∃cs,oc_ (λb=>w0.heap.size<=b/\b<wx.heap.size) wx cs T (QQ A T.length cap):=by
  by_cases L:0<T.length
  ·obtain⟨r,rfl⟩:∃r,A=QJ ⟨r,0,QK⟩:=by obtain⟨cs,f,_⟩:=h.own;obtain⟨b,cp,e,_⟩:=World.ownsRow.form f L;injection e with e _ _;exact⟨b,e⟩
   obtain⟨cs,J,O,_,M,_,C⟩:=Jg_ h.own;obtain⟨B,h1,h2,U⟩:=O.blk;exact⟨cs,J,_,cap,rfl,M,λ_=>⟨r,rfl,⟨by omega,C.2⟩,λa V j x=>by rw[UU wx r (a*18+j) B _ _ h1];exact U a V j x⟩⟩
  ·obtain⟨cs,f,h6,hF,z⟩:=h.own;exact⟨cs,z,A,cap,rfl,s7_ f,λh=>absurd h L⟩
 obtain⟨cs,I⟩:=f;refine⟨⟨_,ss,cs,h.m.pc,I,λj x=>?_⟩,⟨h0,b_ h.m.pc⟩,Y,W,z,X⟩;obtain⟨ix,q1,q2,_⟩:=h.rows j x (by omega);exact⟨ix,q2 x,q1.rd λb Z D=>⟨by omega,D⟩⟩
end
theorem Kq_ (C D I J L a5 M O U V b e f h r x z B:XJ) (w:QV):(UQ 93 1 #[(0,.agg #[C,D,I,J,L,a5,M,O,U,V,b,e,f,h,r,x,z,B])]).run QW w = .ok (QQ (QJ ⟨w.heap.size,0,QK⟩) 1 1) (w.alloc (XX #[C,D,I,J,L,a5,M,O,U,V,b,e,f,h,r,x,z,B] 99)):=by kernel_rfl
theorem Ng_ (c:Array XJ) (b:c.size=18) (w:QV):(UQ 93 1 #[(0,.agg c)]).run QW w = .ok (QQ (QJ ⟨w.heap.size,0,QK⟩) 1 1) (w.alloc (XX c 99)):=by
 obtain⟨l⟩:=c;match l,b with
 | [a0,a1,a2,a3,a4,a5,a6,a7,a8,a9,a10,a11,a12,a13,a14,a15,a16,a17],_=>exact Kq_ a0 a1 a2 a3 a4 a5 a6 a7 a8 a9 a10 a11 a12 a13 a14 a15 a16 a17 w
theorem J5_ {op:Oper} {a:Act} {K:Act->QV->Prop} {Q:Exit->Act->QV->Prop} {w:QV} (x:Operand) (e:op.op = .buildSlice 93 1 #[(0,x)]) {c:Array XJ} (f:a.eval x = .agg c) (b:c.size=18) (h:K (a.put op.dst (.slice (QJ ⟨w.heap.size,0,QK⟩) 1 1)) (w.alloc (.cells c 99))):op.wp QW a w K Q:=by unfold Oper.wp execOp;simp only[e,List.map_toArray,List.map_cons,List.map_nil,f,Sem.run_bind,Sem.run_pure,Ng_ c b w,Result.andThen_ok];exact h
theorem g8_ {v:g_} (h:af_ v):v.list=[]:=by rcases cd_ h with⟨_,e⟩ | ⟨_,e⟩ | ⟨_,_,e⟩ | ⟨_,e⟩<;>(rw[e];rfl)
theorem N9_ {t:e_} (h:ch_ t=true) (f:OkT t) {w:QV} {F:Nat->Prop} {ss:Nat->XJ} (x:∀i,i<3->VRd w F (t.get i) (.agg (c_ (t.get i) (ss i)))):(∀i,i<3->∃A cap,ss i = QQ A 0 cap)/\∀w F,TrS w F t (N_ t ss):=by
 have r:=bx_ h f
 have b:∀i,i<3->∃A cap,ss i = QQ A 0 cap:=λi hi=>by
  obtain⟨A,cap,e,_,_⟩:=(x i hi).inv;injection e with e;have:=congrArg (λa:Array XJ=>a[5]?) e;rw[g8_ (r.get i)]at this;exact⟨A,cap,by simpa [c_] using this⟩
 exact⟨b,λ_ _=>⟨r,λn=>(f.get n).fit,ss,b,rfl⟩⟩
theorem H9_ {w w2:QV} (hb:XW w.heap.size w w2):LdT w w2.heap.size (QQ QK 0 0) [] ((w2.alloc (XX #[QQ QK 0 0,QQ QK 0 0,QQ QK 0 0,QQ QK 0 0,QQ QK 0 0,QQ QK 0 0,QQ QK 0 0] 97)).alloc (XX #[YK (QJ ⟨w2.heap.size,0,QK⟩)] 29)):=
 ⟨⟨hb.trans ((F_ w2 _ _).mono hb.size),hb.size,heap_alloc2_new w2 _ _,heap_alloc2_old w2 _ _⟩,x_.nil ..⟩
theorem Ks_ (W:QV):(Instr.build 97 #[]).run QW W = .ok (.agg #[QQ QK 0 0,QQ QK 0 0,QQ QK 0 0,QQ QK 0 0,QQ QK 0 0,QQ QK 0 0,QQ QK 0 0]) W:=by kernel_rfl
theorem jb_ {w w5:QV} {o:Obj} (ht:Turn (λb=>b=w.heap.size) (w.alloc o) w5):XW w.heap.size w w5:=
 ((XV _ _).alloc (XK _) o).trans ⟨ht.os,ht.tape,ht.output,ht.size,λk e=>ht.block k (by simp;omega) (by omega)⟩
theorem Jv_ {t:e_} {ss:Nat->XJ} (h:∀i,i<3->∃A cap,ss i = QQ A 0 cap):(N_ t ss).all (·.oneCell')=true:=by rw[<-Array.toArray_toList (xs:=N_ t ss)];exact all_oneCell_toArray (ck_ t ss λq b=>by obtain⟨A,cp,e⟩:=h q b;exact⟨A,0,cp,e⟩)
theorem D1_ (L:List e_) (c3:∀t,t∈L->OkT t) (F:Nat->Prop) (A:Option Addr) (n cp:Nat) (w:QV) (hF:∀g,F g->g<w.heap.size) (h:SRd 18 TrR w F L A n) (hn:n<=1000000000) (c2:ad_ w) (cm:ci_ w) :
    Calls QW 12 #[QQ A n cp] w (k6_ L w):=by
 have H1:=q_ (λ(W:QV) (hb:XW w.heap.size w W)=>h.under TrR.good hb hF);have L1:=q_ h.1;have aa:=q_ c3;have HG:=q_ (And.intro c2 cm);have bm:=q_ (r0_ L c3 F A n cp w hF h hn c2);unfold n_ at bm;clear h c3 hF c2 cm;by_cases cy:65536<n
 ·have e1:(65536:Int)<n:=by omega
  go_enter func12,ntmps12
  have HR:=q_ (show ∀w',XW w.heap.size w w'->k6_ L w (YQ (ZJ #[YK QK,QY QU 20])) w' from λw' hb=>.inl ⟨λh2=>by have:=h2.1;have:=L1.o;omega,rfl,hb⟩);go_wp2_with fail;go_ret2;exact HR.o _ (XV _ _)
 ·have e1:¬(65536:Int)<n:=by omega
  have HN:=q_ (show n<=65536 from by omega);obtain⟨m,Hm⟩:=a_ (L.all ch_);rw[Hm.o]at bm;go_enter func12,ntmps12
  go_wp2_with fail;refine bm.o.mono ?_;rintro e w2 ⟨rfl,ck⟩;have cb:=q_ ck;clear ck bm e1 hn cy
  cases m with
  | false=>
   have HR:=q_ (show k6_ L w (YQ (ZJ #[YK none,QY QU 20])) w2 from .inl ⟨λh2=>(by rw[Hm.o]at h2;cases h2.2),rfl,cb.o⟩);go_wp2_with fail;go_ret2;exact HR.o
  | true=>
   have cu:=q_ Hm.o;have am:=q_ (λt (ht:t∈L)=>List.all_eq_true.1 Hm.o t ht);obtain⟨z,Hz⟩:=a_ w2.heap.size;obtain⟨w3,bh⟩:=a_ ((w2.alloc (XX #[QQ QK 0 0,QQ QK 0 0,QQ QK 0 0,QQ QK 0 0,QQ QK 0 0,QQ QK 0 0,QQ QK 0 0] 97)).alloc (XX #[YK (QJ ⟨w2.heap.size,0,QK⟩)] 29));have c5:=H9_ cb.o;rw[bh.o,Hz.o]at c5;rw[Hz.o]at bh;have d9:=q_ c5;clear c5 Hm;go_upto_region 4 with ((with_reducible refine d_ (some 23) ?_);refine W_ rfl 97 #[] rfl #[] rfl (.agg #[QQ QK 0 0,QQ QK 0 0,QQ QK 0 0,QQ QK 0 0,QQ QK 0 0,QQ QK 0 0,QQ QK 0 0]) (Ks_ _) ?_)
   rw[Hz.o,bh.o];clear bh Hz;go_wp2_with fail;go_loopw [27] (λs wx=>∃(k:Nat) (S:XJ),k<=n/\s = QY QU (k:Nat)/\Q_ (LdT w z S (L.take k) wx)) (λs _=>n-(intOf s).toNat)
   case atStart=>exact⟨0,QQ QK 0 0,by omega,rfl,q_ d9.o⟩
   case round=>
    obtain⟨k,S,hk,rfl,hM⟩:=hrel;by_cases dg:k<n
    ·obtain⟨y,hy⟩:∃y,L[k]?=QJ y:=⟨_,XQ (by rw[<-L1.o];exact dg)⟩;have HY:=q_ hy;obtain⟨ad,ss,rfl,_,hq,hr⟩:=TrR.cells (H1.o wr hM.o.m.hb) hy;obtain⟨c4,ct⟩:=N9_ (am.o y (YZ hy)) (aa.o y (YZ hy)) hr;have bf:=q_ ct;have bo:=q_ (λW:QV=>x3_ y ss (λi hi=>by obtain⟨A,c,e⟩:=c4 i hi;exact⟨A,0,c,e⟩) W);unfold Bf_ at bo;have b8:=Jv_ (t:=y) c4;clear hy hr ct c4;obtain⟨Z,bi⟩:=ba_ y ss;rw[bi.o]at bo hq b8 bf;have HQ:=q_ hq;have cv:=q_ b8;clear hq b8;have Z1:=q_ bi.size;have Q1:=q_ (e8_.trans (congrArg QJ bi.size.symm));clear bi;have e1:(0:Int)<=k:=by omega
     have e2:(k:Int)<n:=by omega
     have w1:IntKind.i64.wrap ((k:Int)+1)=(k:Int)+1:=YU _ (by have:=HN.o;omega);obtain⟨zy,af⟩:=a_ wr.heap.size;have ap:=q_ (show (wr.alloc (XX (#[QY QU 0,XY false,QY QU 0,QZ ⟨#[]⟩,QZ ⟨#[]⟩,QQ QK 0 0,QY QU 0,XY false,QY QU 0,QZ ⟨#[]⟩,QZ ⟨#[]⟩,QQ QK 0 0,QY QU 0,XY false,QY QU 0,QZ ⟨#[]⟩,QZ ⟨#[]⟩,QQ QK 0 0]) 41)).heap[zy]?=QJ (XX (#[QY QU 0,XY false,QY QU 0,QZ ⟨#[]⟩,QZ ⟨#[]⟩,QQ QK 0 0,QY QU 0,XY false,QY QU 0,QZ ⟨#[]⟩,QZ ⟨#[]⟩,QQ QK 0 0,QY QU 0,XY false,QY QU 0,QZ ⟨#[]⟩,QZ ⟨#[]⟩,QQ QK 0 0]) 41 (0,0)) from by rw[<-af.o];exact XU wr _)
     go_upto_region 7 with (first
      | ((with_reducible refine d_ (some 30) ?_);refine u9_ rfl 41 _ rfl rfl Z _ HQ.o underlying41 rfl Q1.o ?_)
      | ((with_reducible refine w_ 6 ?_);refine o_ rfl 41 _ _ rfl zy (#[QY QU 0,XY false,QY QU 0,QZ ⟨#[]⟩,QZ ⟨#[]⟩,QQ QK 0 0,QY QU 0,XY false,QY QU 0,QZ ⟨#[]⟩,QZ ⟨#[]⟩,QQ QK 0 0,QY QU 0,XY false,QY QU 0,QZ ⟨#[]⟩,QZ ⟨#[]⟩,QQ QK 0 0]) Z 41 (by rw[<-af.o];rfl) rfl ap.o Z1.o Q1.o cv.o ?_;intro w5 ay aw))
     rw[af.o];have a9:=q_ (show XW wr.heap.size wr w5 from jb_ (by rw[af.o];exact aw));have ar:=q_ ay;clear ay aw HQ ap;have B:=q_ (hM.o.on a9.o);have g0:w5.drew.cell? ⟨z,0,QK⟩=QJ S:=B.o.m.drew.cellS;have Q2:=q_ (e8_.trans (congrArg QJ Z1.o.symm));refine UZ (S:=λW'=>W'.cell? ⟨z+1,0,QK⟩=QJ (YK (QJ ⟨z,0,QK⟩))/\W'.heap[zy]?=QJ (XX Z 41 (0,0))) (by kernel_rfl) ⟨B.o.m.drew.cellP,ar.o⟩ λf=>?_;refine H_.o ?_;refine tlW 0 31 (YK (QJ ⟨z,0,QK⟩)) f (λw D=>?_) λf=>?_
     ·have p:=D.1;unfold z_;go_simp
     refine tlW 1 32 (YK (QJ ⟨z,0,QK⟩)) f (λw D=>?_) λf=>?_
     ·have p:=D.1;unfold z_;go_simp
     refine O_ 2 33 (YK (QJ ⟨z,0,QK⟩)) f λf=>?_;refine O_ 3 34 (YK (QJ ⟨z,0,QK⟩)) f λf=>?_;refine tlW 5 36 (.agg Z) f (λw D=>?_) λf=>?_
     ·exact k_ (cb_ D.2 41 _ underlying41 rfl Q2.o)
     refine ea_ 4 6 (by kernel_rfl) (by rfl) (by rfl) (λK r=>?_) λK r=>?_
     ·skip
      unfold f6_;go_simp;refine tlB r f λf=>?_;clear r K;refine tlC 6 λK r=>?_;go_simp;refine (bo.o w5.drew).mono ?_;rintro e w6 ⟨rfl,V⟩;have f:w6.cell? ⟨z+1,0,QK⟩=QJ (YK (QJ ⟨z,0,QK⟩))/\w6.heap[zy]?=QJ (XX Z 41 (0,0)):=⟨(B.o.drew.on V).m.cellP,(V.block zy (b_ ar.o)).trans ar.o⟩;dsimp only;refine tlB r f λf=>?_;clear r K;have x:=q_ (B.o.drew.on V);have ba:=q_ (show XW wr.heap.size wr w6 from a9.o.trans ((a1_ V).mono a9.o.size));have X:=q_ f;have b9:=q_ (show (w6.alloc (XX Z 99)).cell? ⟨z+1,0,QK⟩=QJ (YK (QJ ⟨z,0,QK⟩))/\(w6.alloc (XX Z 99)).heap[zy]?=QJ (XX Z 41 (0,0)) from ⟨(x.o.on ((XV _ _).alloc (XK _) _)).m.cellP,(Below.heap_alloc _ _ _ (b_ X.o.2)).trans X.o.2⟩);clear V;refine tlC 7 λK r=>?_;refine J5_ (.tmp 37) rfl rfl Z1.o ?_;refine tlB r b9.o λf=>?_;clear r K;refine tlC 8 λK r=>?_;refine rk_ (.tmp 35) (.tmp 38) rfl rfl x.o.own (show (L.take k).length=k from by rw[UJ,<-L1.o];omega) rfl bf.o (by have:=HN.o;omega) (λb hb=>hb.2) λg7 c7 I a7 J a6 a8=>?_;have C:=q_ (x.o.m.turn (Turn.of_grown J) (λb hb=>(x.o.blk b hb.symm).1));have a5:=q_ (show I.heap[zy]?=QJ (XX Z 41 (0,0)) from (Turn.of_grown J).heap X.o.2 (λe=>by obtain⟨cs,a1,_⟩:=x.o.own;exact cm_ a1 X.o.2 (by decide) e.symm));have a4:=q_ (x.o.more J a6 a8 a7);clear a7 J a6 a8;refine tlB r ⟨C.o.cellP,a5.o⟩ λf=>?_;clear r K;refine O_ 9 40 (YK (QJ ⟨z,0,QK⟩)) f λf=>?_;refine O_ 10 41 (YK (QJ ⟨z,0,QK⟩)) f λf=>?_;have f7:I.frozen? ⟨z,0,QK⟩=false:=YY C.o.pc 0;have g7:I.cell? ⟨z,0,QK⟩=QJ S:=C.o.cellS;refine tkC 11 λK r=>?_;unfold f6_;go_simp;refine tlB r ⟨a4.o.m.cellP,((Turn.refl (λb=>b=z) I).setCell (p:=⟨z,0,QK⟩) (.inr rfl) _).heap a5.o (λe=>by have h1:=B.o.m.c0;have h2:wr.heap.size=zy:=af.o;have h3:=b_ hM.o.m.pc;omega)⟩ λf=>?_;clear r K;refine⟨VX (by kernel_rfl) ?_ _⟩;clear f;go_wp2_with fail;go_roundw
      case rel=>exact⟨k+1,_,by omega,by go_num,q_ (by rw[f_ HY.o];exact a4.o)⟩
      case measure=>simp[intOf];omega
     ·skip
      change Oper.wp _ ⟨some 37,_,_,_,_,_⟩ _ _ _ _;go_simp;refine (bo.o w5.drew).mono ?_;rintro e w6 ⟨rfl,V⟩;have ba:=q_ (show XW w5.heap.size w5 w6 from a1_ V);have g6:w6.cell? ⟨z,0,QK⟩=QJ S:=(B.o.on ba.o).m.cellS;clear ba;have f:w6.cell? ⟨z+1,0,QK⟩=QJ (YK (QJ ⟨z,0,QK⟩))/\w6.heap[zy]?=QJ (XX Z 41 (0,0)):=⟨(B.o.drew.on V).m.cellP,(V.block zy (b_ ar.o)).trans ar.o⟩;dsimp only;refine tlB r f λf=>?_;clear r K;have x:=q_ (B.o.drew.on V);have ba:=q_ (show XW wr.heap.size wr w6 from a9.o.trans ((a1_ V).mono a9.o.size));have X:=q_ f;have b9:=q_ (show (w6.alloc (XX Z 99)).cell? ⟨z+1,0,QK⟩=QJ (YK (QJ ⟨z,0,QK⟩))/\(w6.alloc (XX Z 99)).heap[zy]?=QJ (XX Z 41 (0,0)) from ⟨(x.o.on ((XV _ _).alloc (XK _) _)).m.cellP,(Below.heap_alloc _ _ _ (b_ X.o.2)).trans X.o.2⟩);clear V;refine ea_ 4 7 (by kernel_rfl) (by rfl) (by rfl) (λK r=>?_) λK r=>?_
      ·skip
       unfold f6_;go_simp;refine tlB r f λf=>?_;clear r K;refine tlC 7 λK r=>?_;refine J5_ (.tmp 37) rfl rfl Z1.o ?_;refine tlB r b9.o λf=>?_;clear r K;refine tlC 8 λK r=>?_;refine rk_ (.tmp 35) (.tmp 38) rfl rfl x.o.own (show (L.take k).length=k from by rw[UJ,<-L1.o];omega) rfl bf.o (by have:=HN.o;omega) (λb hb=>hb.2) λg7 c7 I a7 J a6 a8=>?_;have C:=q_ (x.o.m.turn (Turn.of_grown J) (λb hb=>(x.o.blk b hb.symm).1));have a5:=q_ (show I.heap[zy]?=QJ (XX Z 41 (0,0)) from (Turn.of_grown J).heap X.o.2 (λe=>by obtain⟨cs,a1,_⟩:=x.o.own;exact cm_ a1 X.o.2 (by decide) e.symm));have a4:=q_ (x.o.more J a6 a8 a7);clear a7 J a6 a8;refine tlB r ⟨C.o.cellP,a5.o⟩ λf=>?_;clear r K;refine O_ 9 40 (YK (QJ ⟨z,0,QK⟩)) f λf=>?_;refine O_ 10 41 (YK (QJ ⟨z,0,QK⟩)) f λf=>?_;have f7:I.frozen? ⟨z,0,QK⟩=false:=YY C.o.pc 0;have g7:I.cell? ⟨z,0,QK⟩=QJ S:=C.o.cellS;refine tkC 11 λK r=>?_;unfold f6_;go_simp;refine tlB r ⟨a4.o.m.cellP,((Turn.refl (λb=>b=z) I).setCell (p:=⟨z,0,QK⟩) (.inr rfl) _).heap a5.o (λe=>by have h1:=B.o.m.c0;have h2:wr.heap.size=zy:=af.o;have h3:=b_ hM.o.m.pc;omega)⟩ λf=>?_;clear r K;refine⟨VX (by kernel_rfl) ?_ _⟩;clear f;go_wp2_with fail;go_roundw
       case rel=>exact⟨k+1,_,by omega,by go_num,q_ (by rw[f_ HY.o];exact a4.o)⟩
       case measure=>simp[intOf];omega
      ·skip
       change Oper.wp _ ⟨some 38,_,_,_,_,_⟩ _ _ _ _;refine J5_ (.tmp 37) rfl rfl Z1.o ?_;refine tlB r b9.o λf=>?_;clear r K;have gA:(w6.alloc (XX Z 99)).cell? ⟨z,0,QK⟩=QJ S:=(x.o.on ((XV _ _).alloc (XK _) _)).m.cellS;refine tkC 4 λK r=>?_;unfold f6_;go_simp;refine tlB r f λf=>?_;clear r K;refine tlC 8 λK r=>?_;refine rk_ (.tmp 35) (.tmp 38) rfl rfl x.o.own (show (L.take k).length=k from by rw[UJ,<-L1.o];omega) rfl bf.o (by have:=HN.o;omega) (λb hb=>hb.2) λg7 c7 I a7 J a6 a8=>?_;have C:=q_ (x.o.m.turn (Turn.of_grown J) (λb hb=>(x.o.blk b hb.symm).1));have a5:=q_ (show I.heap[zy]?=QJ (XX Z 41 (0,0)) from (Turn.of_grown J).heap X.o.2 (λe=>by obtain⟨cs,a1,_⟩:=x.o.own;exact cm_ a1 X.o.2 (by decide) e.symm));have a4:=q_ (x.o.more J a6 a8 a7);clear a7 J a6 a8;refine tlB r ⟨C.o.cellP,a5.o⟩ λf=>?_;clear r K;refine O_ 9 40 (YK (QJ ⟨z,0,QK⟩)) f λf=>?_;refine O_ 10 41 (YK (QJ ⟨z,0,QK⟩)) f λf=>?_;have f7:I.frozen? ⟨z,0,QK⟩=false:=YY C.o.pc 0;have g7:I.cell? ⟨z,0,QK⟩=QJ S:=C.o.cellS;refine tkC 11 λK r=>?_;unfold f6_;go_simp;refine tlB r ⟨a4.o.m.cellP,((Turn.refl (λb=>b=z) I).setCell (p:=⟨z,0,QK⟩) (.inr rfl) _).heap a5.o (λe=>by have h1:=B.o.m.c0;have h2:wr.heap.size=zy:=af.o;have h3:=b_ hM.o.m.pc;omega)⟩ λf=>?_;clear r K;refine⟨VX (by kernel_rfl) ?_ _⟩;clear f;go_wp2_with fail;go_roundw
       case rel=>exact⟨k+1,_,by omega,by go_num,q_ (by rw[f_ HY.o];exact a4.o)⟩
       case measure=>simp[intOf];omega
    ·have de:n=k:=by omega
     subst de;have HM:=q_ (show LdT w z S L wr from by have h:=hM.o;rw[YJ (by rw[<-L1.o];exact XK _)]at h;exact h);have HZ:=q_ (show w.heap.size<=z from HM.o.m.c0);clear hM;go_wp2_with fail;refine (Ms_ _).mono ?_;unfold k8_;rintro e w4 ⟨rfl,cl⟩;obtain⟨wc,bj⟩:=a_ (gs_ (aa_ 0));have ZW:=q_ (show wc.size=3 from by rw[<-bj.o];rfl);have dc:=q_ (show wc.all (·.oneCell')=true from by rw[<-bj.o];kernel_rfl);rw[bj.o];have d5:=q_ (HM.o.on cl);clear cl;obtain⟨zp,bl⟩:=a_ w4.heap.size;have ap:=q_ (show (w4.alloc (XX #[QY QU 0,QY QU 0,QY QU 0] 101)).heap[zp]?=QJ (XX #[QY QU 0,QY QU 0,QY QU 0] 101 (0,0)) from by rw[<-bl.o];exact XU w4 _);have d3:=q_ (show (Tryz.prog.info? 101).map (·.size)=QJ wc.size from by rw[ZW.o];kernel_rfl);go_upto_region 10 with ((with_reducible refine w_ 7 ?_);refine o_ rfl 101 _ _ rfl zp (#[QY QU 0,QY QU 0,QY QU 0]) wc 101 (by rw[<-bl.o];rfl) rfl ap.o ZW.o d3.o dc.o ?_;intro w5 ay aw)
     rw[bl.o];have a9:=q_ (show XW w4.heap.size w4 w5 from jb_ (by rw[bl.o];exact aw));have B:=q_ (d5.o.on a9.o);have bs:=q_ (show w5.heap[zp]?=QJ (XX (gs_ (aa_ 0)) 101 (0,0)) from by rw[bj.o];exact ay);clear ay aw ap;have p5:w5.cell? ⟨z+1,0,QK⟩=QJ (YK (QJ ⟨z,0,QK⟩)):=B.o.m.cellP;have g5:w5.cell? ⟨z,0,QK⟩=QJ S:=B.o.m.cellS;go_wp2_with fail;refine (Ez_ (aa_ 0) (eb_ 0) zp w B.o.own (by have:=HN.o;have:=L1.o;omega) (λb hb=>hb.2) B.o.m.hb (λb hb=>by have:=(B.o.blk b hb).1;have:=HZ.o;omega) HG.o.1 HG.o.2 bs.o).mono ?_;rintro e w6 ⟨rfl,L6,cq,cr,bn,bp⟩;have x:=q_ (show LdT w z S L6 w6 from ⟨B.o.m.turn bp (λb hb=>(B.o.blk b hb).1),bn.mono TrS.good λb hb=>⟨hb.1,XZ hb.2 bp.size⟩⟩);have d7:=q_ (bp.heap bs.o (λe=>by obtain⟨cs,a1,_⟩:=B.o.own;exact cm_ a1 bs.o (by decide) e));have b5:=q_ (And.intro cq cr);clear p5 g5 cq cr bn bp;have ce:=q_ (show L6.length<=65536 from by rw[b5.o.1.length_eq];have:=HN.o;have:=L1.o;omega);have g6:w6.drew.cell? ⟨z,0,QK⟩=QJ S:=x.o.m.cellS;go_upto_region 11 with fail;refine UZ (S:=λW'=>W'.cell? ⟨z+1,0,QK⟩=QJ (YK (QJ ⟨z,0,QK⟩))) (by kernel_rfl) x.o.m.drew.cellP λf=>?_;refine H_.o ?_;refine tlW 0 54 (YK (QJ ⟨z,0,QK⟩)) f (λw D=>?_) λf=>?_
     ·have p:=D;unfold z_;go_simp
     refine tlW 1 55 (YK (QJ ⟨z,0,QK⟩)) f (λw D=>?_) λf=>?_
     ·have p:=D;unfold z_;go_simp
     refine O_ 2 56 (YK (QJ ⟨z,0,QK⟩)) f λf=>?_;refine O_ 3 57 (YK (QJ ⟨z,0,QK⟩)) f λf=>?_;refine O_ 5 59 (.func (.func 53) #[] #[YK (QJ ⟨zp,0,QK⟩)]) f λf=>?_;refine tkC 4 λK r=>?_;unfold f6_;go_simp;refine tlB r f λf=>?_;clear r K;refine tlC 6 λK r=>?_;go_simp;refine (we_ (aa_ 0) (eb_ 0) zp w (w:=w6.drew) x.o.own (by have:=ce.o;omega) x.o.m.hb.drew (λb hb=>by have:=(x.o.blk b hb).1;have:=HZ.o;omega) HG.o.1 HG.o.2 d7.o).mono ?_;rintro e I ⟨s7,rfl,dh,a2,c8⟩;have HT:=q_ (show cpt (s_ (aa_ 0)) L6=an_ (s_ (aa_ 0)) L from Gv_ (az_ _) b5.o.1 (b5.o.2.imp λh=>by omega) (λa ha b hb h0=>fp_ (eb_ 0) (bx_ (am.o a ha) (aa.o a ha)) (bx_ (am.o b hb) (aa.o b hb)) h0));obtain⟨A7,c7,e7⟩:=a2.form;rw[HT.o]at a2 e7;obtain⟨T,bg⟩:=a_ (an_ (s_ (aa_ 0)) L);rw[bg.o]at a2 e7;obtain⟨nT,bu⟩:=a_ T.length;rw[bu.o]at e7;subst e7;have C:=q_ (x.o.m.drew.turn c8 (λb hb=>(x.o.blk b hb).1));have cf:=q_ (show x_ 99 18 TrS I (λb=>z+2<=b/\b<I.heap.size) T (QQ A7 nT c7) from a2.mono TrS.good λb hb=>⟨hb.1,XZ hb.2 c8.size⟩);clear dh a2 c8 g6;dsimp only;refine tlB r C.o.cellP λf=>?_;clear r K;refine O_ 7 61 (YK (QJ ⟨z,0,QK⟩)) f λf=>?_;refine O_ 8 62 (YK (QJ ⟨z,0,QK⟩)) f λf=>?_;have g7:I.cell? ⟨z,0,QK⟩=QJ S:=C.o.cellS;have f7:I.frozen? ⟨z,0,QK⟩=false:=YY C.o.pc 0;refine tkC 9 λK r=>?_;unfold f6_;go_simp;have bb:=q_ (show LdT w z (QQ A7 nT c7) T (I.setCell ⟨z,0,QK⟩ (QQ A7 nT c7)) from ⟨C.o.setS _,(cf.o.turn TrS.good ((Turn.refl (λb=>b=z) I).setCell (p:=⟨z,0,QK⟩) (.inr rfl) _) (λb hb=>hb.2) (λb hb e=>by have e:b=z:=e;have:=hb.1;omega)).mono TrS.good λb hb=>⟨hb.1,by have ht:=(Turn.refl (λb=>b=z) I).setCell (p:=⟨z,0,QK⟩) (.inr rfl) (QQ A7 nT c7);exact XZ hb.2 ht.size⟩⟩);refine tlB r bb.o.m.cellP λf=>?_;clear r K;refine⟨VX (by kernel_rfl) ?_ _⟩;clear f g7 f7 C cf;have ab:=q_ (show (∀t,t∈T->t∈L)/\j9_ (s_ (aa_ 0)) T/\T.length<=65536 from by have hl:=ct_ (az_ (aa_ 0)) (l:=L) (λa ha b hb h0=>fp_ (eb_ 0) (bx_ (am.o a ha) (aa.o a ha)) (bx_ (am.o b hb) (aa.o b hb)) h0);rw[bg.o]at hl;exact⟨λt ht=>(hl.2 t).1 ht,hl.1,by have:=Kz_ (s_ (aa_ 0)) L6;rw[HT.o,bg.o]at this;have:=ce.o;omega⟩);have cg:=q_ (λt (ht:t∈T)=>bx_ (am.o t (ab.o.1 t ht)) (aa.o t (ab.o.1 t ht)));have d2:=q_ (λt (ht:t∈T) (n:Nat)=>((aa.o t (ab.o.1 t ht)).get n).fit);have d6:=q_ (show T.Nodup from ab.o.2.1.imp fun {a b} h e=>by rw[e,(az_ (aa_ 0)).refl]at h;omega);have bc:=q_ (show nT<=65536 from by rw[<-bu.o];exact ab.o.2.2);obtain⟨w8,ci⟩:=a_ (I.setCell ⟨z,0,QK⟩ (QQ A7 nT c7));rw[ci.o]at bb ⊢;clear ci;obtain⟨zo,bw⟩:=a_ w8.heap.size;obtain⟨w9,bt⟩:=a_ (w8.alloc (XX #[QZ ⟨#[115,112,111]⟩,QZ ⟨#[115,111,112]⟩,QZ ⟨#[112,115,111]⟩,QZ ⟨#[112,111,115]⟩,QZ ⟨#[111,115,112]⟩,QZ ⟨#[111,112,115]⟩] 9));have da:=q_ (show LdX w z (QQ A7 nT c7) T va_ zo 0 [] w9 from by rw[<-bt.o,<-bw.o];exact LdX.start bb.o);go_wp2_with fail;rw[bw.o,bt.o];clear bt bw bb;go_loopw [65] (λs wx=>∃(j:Nat) (ss:Nat->XJ),j<=6/\s = QY QU (j:Nat)/\Q_ (LdX w z (QQ A7 nT c7) T ss zo j [] wx/\(j<6->ss j = QQ QK 0 0))) (λs _=>6-(intOf s).toNat)
     case atStart=>exact⟨0,va_,by omega,rfl,q_ ⟨da.o,λ_=>rfl⟩⟩
     case round=>
      obtain⟨j,ss,dp,rfl,hM⟩:=hrel;by_cases co:j<6
      ·have e3:(0:Int)<=j:=by omega
       have e4:(j:Int)<6:=by omega
       have Y:=q_ co;have w3:IntKind.i64.wrap ((j:Int)+1)=(j:Int)+1:=YU _ (by omega);have q0:wr.cell? ⟨zo,j,QK⟩=QJ (QZ (gt_ j)):=hM.o.1.name co;have dl:(⟨zo,0,QK⟩:Addr).add j=⟨zo,j,QK⟩:=by rw[Addr.add_mid,VQ]
       go_wp2_with fail;refine (Mf_ j Y.o _).mono ?_;unfold k8_;rintro e bq ⟨rfl,bz⟩;have b6:=q_ (hM.o.1.on bz);have d8:=q_ (hM.o.2 Y.o);clear hM bz q0;obtain⟨wq,bk⟩:=a_ (gs_ (aa_ j));have ZQ:=q_ (show wq.size=3 from by rw[<-bk.o];rfl);have db:=q_ (show wq.all (·.oneCell')=true from by rw[<-bk.o];kernel_rfl);rw[bk.o];obtain⟨zq,au⟩:=a_ bq.heap.size;have cc:=q_ (show (bq.alloc (XX #[QY QU 0,QY QU 0,QY QU 0] 101)).heap[zq]?=QJ (XX #[QY QU 0,QY QU 0,QY QU 0] 101 (0,0)) from by rw[<-au.o];exact XU bq _);have d4:=q_ (show (Tryz.prog.info? 101).map (·.size)=QJ wq.size from by rw[ZQ.o];kernel_rfl);go_upto_region 16 with ((with_reducible refine w_ 12 ?_);refine o_ rfl 101 _ _ rfl zq (#[QY QU 0,QY QU 0,QY QU 0]) wq 101 (by rw[<-au.o];rfl) rfl cc.o ZQ.o d4.o db.o ?_;intro br c9 c6)
       rw[au.o];have ao:=q_ (b6.o.on (jb_ (w5:=br) (by rw[au.o];exact c6)));have cw:=q_ (show br.heap[zq]?=QJ (XX (gs_ (aa_ j)) 101 (0,0)) from by rw[bk.o];exact c9);have cj:=q_ (show z+2<=zq from by have:=b_ b6.o.m.ph;have h2:bq.heap.size=zq:=au.o;omega);clear c9 c6 cc b6;have dr:br.cell? ⟨z+1,0,QK⟩=QJ (YK (QJ ⟨z,0,QK⟩)):=ao.o.m.cellP;have dm:br.cell? ⟨z,0,QK⟩=QJ (QQ A7 nT c7):=ao.o.m.cellS;go_wp2_with fail;go_loopw [80] (λs wx=>∃(k:Nat) (O:Nat->XJ),k<=nT/\s = QY QU (k:Nat)/\Q_ (LdX w z (QQ A7 nT c7) T O zo j (List.range k) wx/\(k=0->O j = QQ QK 0 0)/\(∀i,i<6->j<i->O i = QQ QK 0 0)/\wx.heap[zq]?=QJ (XX (gs_ (aa_ j)) 101 (0,0)))) (λs _=>nT-(intOf s).toNat)
       case atStart=>exact⟨0,ss,by omega,rfl,q_ ⟨ao.o,λ_=>d8.o,λi hi av=>by obtain⟨_,_,_,h3⟩:=ao.o.rows i hi (by omega);exact h3 av,cw.o⟩⟩
       case round=>
        obtain⟨k,O,dq,rfl,M⟩:=hrel;by_cases df:k<nT
        ·have du:IntKind.i64.wrap ((k:Int)+1)=(k:Int)+1:=YU _ (by have:=bc.o;omega);have cd:=q_ df;have bd:=q_ (show wr.drew.ownsRow 0 3 1 (O j) k (ixC (List.range k)) from by have h:=(M.o.1.rowj Y.o).row;rw[List.length_range]at h;exact h);have dn:wr.drew.cell? ⟨z,1+j,QK⟩=QJ (O j):=M.o.1.m.cellJ Y.o;have ae:=q_ M.o.1.drew;go_upto_region 19 with fail;refine UZ (S:=λW'=>W'.cell? ⟨z+1,0,QK⟩=QJ (YK (QJ ⟨z,0,QK⟩))) (by kernel_rfl) ae.o.m.cellP λf=>?_;refine H_.o ?_;refine tlW 0 83 (YK (QJ ⟨z,0,QK⟩)) f (λw D=>?_) λf=>?_
         ·have p:=D;unfold z_;go_simp
         refine O_ 1 84 (QY QU (j:Nat)) f λf=>?_;refine tlW 2 85 (YK (QJ ⟨z,0,QK⟩)) f (λw D=>?_) λf=>?_
         ·have p:=D;unfold z_;go_simp
         refine O_ 3 86 (QY QU (j:Nat)) f λf=>?_;refine O_ 4 87 (YK (QJ ⟨z,0,QK⟩)) f λf=>?_;refine O_ 5 88 (YK (QJ ⟨z,1,QK⟩)) f λf=>?_;refine tlW 6 89 (YK (QJ ⟨z,1+j,QK⟩)) f (λw D=>?_) λf=>?_
         ·exact k_ (u4_ z j Y.o w)
         refine O_ 8 91 (QY QU (k:Nat)) f λf=>?_;refine O_ 11 94 (YK (QJ ⟨z,0,QK⟩)) f λf=>?_;refine O_ 12 95 (YK (QJ ⟨z,1,QK⟩)) f λf=>?_;refine ea_ 7 9 (by kernel_rfl) (by rfl) (by rfl) (λK r=>?_) λK r=>?_
         ·skip
          unfold f6_;go_simp;refine tlB r f λf=>?_;clear r K;refine tkC 9 λK r=>?_;unfold f6_;go_simp;refine tlB r (show (wr.alloc (XX #[QY QU (k:Nat)] 3)).drew.cell? ⟨z+1,0,QK⟩=QJ (YK (QJ ⟨z,0,QK⟩)) from (M.o.1.on ((XV _ _).alloc (XK _) _)).m.drew.cellP) λf=>?_;clear r K;refine tlC 10 λK r=>?_;refine y9_ (.tmp 90) (.tmp 92) rfl (wr:=wr.drew) (k:=k) rfl List.length_range bd.o rfl (by have:=bc.o;have:=cd.o;omega) λah ag a3 aj U ai ak=>?_;have a0:=q_ (ae.o.m.turn (Turn.of_grown U) (λb hb=>((ae.o.rowj Y.o).blk b hb.symm).1));have ac:=q_ (ae.o.store (v:=QQ (QJ ⟨ah,0,QK⟩) (k+1) ag) (ix':=List.range (k+1)) Y.o U ai ak rfl (by rw[List.length_range,List.range_succ];exact aj));have az:=q_ (show a3.heap[zq]?=QJ (XX (gs_ (aa_ j)) 101 (0,0)) from (Turn.of_grown U).heap M.o.2.2.2 (λe=>cm_ bd.o M.o.2.2.2 (by decide) e.symm));have bx:a3.frozen? ⟨z,1+j,QK⟩=false:=YY a0.o.pc _;have b7:a3.cell? ⟨z,1+j,QK⟩=QJ (O j):=a0.o.cellJ Y.o;clear aj U ai ak;refine tlB r a0.o.cellP λf=>?_;clear r K;refine tlW 13 96 (YK (QJ ⟨z,1+j,QK⟩)) f (λw D=>?_) λf=>?_
          ·exact k_ (u4_ z j Y.o w)
          refine tkC 14 λK r=>?_;unfold f6_;go_simp;refine tlB r ac.o.m.cellP λf=>?_;clear r K;refine⟨VX (by kernel_rfl) ?_ _⟩;clear f bx b7;have b0:=q_ (((Turn.refl (λb=>b=z) a3).setCell (p:=⟨z,1+j,QK⟩) (.inr rfl) (QQ (QJ ⟨ah,0,QK⟩) (k+1) ag)).heap az.o (by have:=cj.o;omega));have aq:=q_ M.o.2.2.1;clear M;go_wp2_with fail;go_roundw
          case rel=>exact⟨k+1,Me_ O j (QQ (QJ ⟨ah,0,QK⟩) (k+1) ag),by omega,by go_num,q_ ⟨ac.o,λh=>by omega,λi hi av=>(iN_ (by omega)).trans (aq.o i hi av),b0.o⟩⟩
          case measure=>simp[intOf];omega
         ·skip
          unfold f6_;go_simp;refine tlB r (show (wr.alloc (XX #[QY QU (k:Nat)] 3)).drew.cell? ⟨z+1,0,QK⟩=QJ (YK (QJ ⟨z,0,QK⟩)) from (M.o.1.on ((XV _ _).alloc (XK _) _)).m.drew.cellP) λf=>?_;clear r K;have dk:(wr.alloc (XX #[QY QU (k:Nat)] 3)).drew.cell? ⟨z,1+j,QK⟩=QJ (O j):=(M.o.1.on ((XV _ _).alloc (XK _) _)).m.drew.cellJ Y.o;refine tkC 7 λK r=>?_;unfold f6_;go_simp;refine tlB r f λf=>?_;clear r K;refine tlC 10 λK r=>?_;refine y9_ (.tmp 90) (.tmp 92) rfl (wr:=wr.drew) (k:=k) rfl List.length_range bd.o rfl (by have:=bc.o;have:=cd.o;omega) λah ag a3 aj U ai ak=>?_;have a0:=q_ (ae.o.m.turn (Turn.of_grown U) (λb hb=>((ae.o.rowj Y.o).blk b hb.symm).1));have ac:=q_ (ae.o.store (v:=QQ (QJ ⟨ah,0,QK⟩) (k+1) ag) (ix':=List.range (k+1)) Y.o U ai ak rfl (by rw[List.length_range,List.range_succ];exact aj));have az:=q_ (show a3.heap[zq]?=QJ (XX (gs_ (aa_ j)) 101 (0,0)) from (Turn.of_grown U).heap M.o.2.2.2 (λe=>cm_ bd.o M.o.2.2.2 (by decide) e.symm));have bx:a3.frozen? ⟨z,1+j,QK⟩=false:=YY a0.o.pc _;have b7:a3.cell? ⟨z,1+j,QK⟩=QJ (O j):=a0.o.cellJ Y.o;clear aj U ai ak;refine tlB r a0.o.cellP λf=>?_;clear r K;refine tlW 13 96 (YK (QJ ⟨z,1+j,QK⟩)) f (λw D=>?_) λf=>?_
          ·exact k_ (u4_ z j Y.o w)
          refine tkC 14 λK r=>?_;unfold f6_;go_simp;refine tlB r ac.o.m.cellP λf=>?_;clear r K;refine⟨VX (by kernel_rfl) ?_ _⟩;clear f bx b7;have b0:=q_ (((Turn.refl (λb=>b=z) a3).setCell (p:=⟨z,1+j,QK⟩) (.inr rfl) (QQ (QJ ⟨ah,0,QK⟩) (k+1) ag)).heap az.o (by have:=cj.o;omega));have aq:=q_ M.o.2.2.1;clear M;go_wp2_with fail;go_roundw
          case rel=>exact⟨k+1,Me_ O j (QQ (QJ ⟨ah,0,QK⟩) (k+1) ag),by omega,by go_num,q_ ⟨ac.o,λh=>by omega,λi hi av=>(iN_ (by omega)).trans (aq.o i hi av),b0.o⟩⟩
          case measure=>simp[intOf];omega
        ·have d0:nT=k:=by omega
         subst d0;have di:wr.cell? ⟨z+1,0,QK⟩=QJ (YK (QJ ⟨z,0,QK⟩)):=M.o.1.m.cellP;have dd:wr.cell? ⟨z,1+j,QK⟩=QJ (O j):=M.o.1.m.cellJ Y.o;have dj:(⟨z,1,QK⟩:Addr).add j=⟨z,1+j,QK⟩:=Addr.add_mid _ _ _;have ch:=q_ (Ex_ M.o.1 Y.o bu.o M.o.2.1 M.o.2.2.2 HG.o.1 HG.o.2 cg.o d6.o bc.o);have aq:=q_ M.o.2.2.1;clear M;go_wp2_with fail;refine ch.o.mono ?_;rintro e dt ⟨rfl,ix',cn,ca⟩;have cx:=q_ (ca.next Y.o cn);clear cn ca ch di dd;go_wp2_with fail;go_roundw
         case rel=>exact⟨j+1,O,by omega,by go_num,q_ ⟨cx.o,λh=>aq.o (j+1) h (by omega)⟩⟩
         case measure=>simp[intOf];omega
      ·have cz:j=6:=by omega
       subst cz;have ds:wr.cell? ⟨z+1,0,QK⟩=QJ (YK (QJ ⟨z,0,QK⟩)):=hM.o.1.m.cellP;have d1:=q_ (show k6_ L w (YQ (ZJ #[YK (QJ ⟨z,0,QK⟩),QY QU 0])) wr from .inr ⟨by have:=HN.o;have:=L1.o;omega,cu.o,z,rfl,hM.o.1.m.hb,by rw[bg.o];exact hM.o.1.whole cg.o d2.o ab.o.2.1 ab.o.2.2⟩);clear hM;go_wp2_with fail;go_ret2;exact d1.o
def Kof (T:List e_) (ix:List Nat):List e_:=ix.map λk=>T.getD k Cl_
theorem Li_ {T:List e_} {ix:List Nat} {n k:Nat} {t:e_} (h1:ix[n]?=QJ k) (h2:T[k]?=QJ t):(Kof T ix)[n]?=QJ t:=by unfold Kof;rw[List.getElem?_map,h1];simp[h2]
def Pc_ (c:Nat) (W:Way) (s:XJ) (d:Nat) (at_ en:Nat->Nat):Array XJ:=
 #[YK (QJ ⟨c,0,QK⟩),QY QU (W.i:Nat),QY QU (W.j:Nat),QY QU (W.k:Nat),s,QY QU (d:Nat),QY QU (at_ 0:Nat),QY QU (en 0:Nat),QY QU (at_ 1:Nat),QY QU (en 1:Nat),QY QU (at_ 2:Nat),QY QU (en 2:Nat),QY QU (at_ 3:Nat),QY QU (en 3:Nat)]
structure ze_ (F:Nat->Prop) (c:Nat) (j:Nat) (T:List e_) (ix:List Nat) (cs:Nat->Array XJ) (S s:XJ) (w:QV):Prop where
 st:w.cell? ⟨c,0,QK⟩=QJ S
 row:oc_ F w cs T S
 nums:ob_ F w ix s
 ixo:mq_ (aa_ j) T ix
 fc:F c
 j6:j<6
 scal:∀t,t∈T->cj_ t
 fit:∀t,t∈T->∀n,cg_ (t.get n)
 len:T.length<=65536
structure gv_ (F:Nat->Prop) (q c:Nat) (j:Nat) (T:List e_) (ix:List Nat) (cs:Nat->Array XJ) (S s:XJ) (d:Nat) (at_ en:Nat->Nat) (w:QV):Prop where
 r:ze_ F c j T ix cs S s w
 cur:w.heap[q]?=QJ (XX (Pc_ c (aa_ j) s d at_ en) 171 (0,0))
 fq:¬F q
 fl:∀b,F b->b<w.heap.size
section
variable {F:Nat->Prop} {q c j:Nat} {T:List e_} {ix:List Nat} {cs:Nat->Array XJ} {S s:XJ} {d:Nat} {at_ en:Nat->Nat} {w w':QV}
theorem ze_.keep (h:ze_ F c j T ix cs S s w) (e:∀b,F b->w'.heap[b]?=w.heap[b]?):ze_ F c j T ix cs S s w':=
 ⟨(World.cell?_of_block (a:=⟨c,0,QK⟩) (e c h.fc)).trans h.st,h.row.keep λ_ f=>World.cell?_of_block (e _ f),h.nums.keep λ_ f=>World.cell?_of_block (e _ f),h.ixo,h.fc,h.j6,h.scal,h.fit,h.len⟩
theorem gv_.turn (h:gv_ F q c j T ix cs S s d at_ en w) {e:Nat->Prop} (ht:Turn e w w') (h1:∀b,F b->¬e b) (h2:¬e q):gv_ F q c j T ix cs S s d at_ en w':=
 ⟨h.r.keep λb hb=>ht.block b (h.fl b hb) (h1 b hb),ht.heap h.cur h2,h.fq,λb hb=>XZ (h.fl b hb) ht.size⟩
theorem gv_.on (h:gv_ F q c j T ix cs S s d at_ en w) (hb:XW w.heap.size w w'):gv_ F q c j T ix cs S s d at_ en w':=
 h.turn (Turn.of_below hb) (λb e h2=>by have:=h.fl b e;have h2:w.heap.size<=b:=h2;omega) (λh2=>by have:=b_ h.cur;have h2:w.heap.size<=q:=h2;omega)
theorem gv_.drew (h:gv_ F q c j T ix cs S s d at_ en w):gv_ F q c j T ix cs S s d at_ en w.drew:=h.on (XV _ _).drew
theorem gv_.c0 (h:gv_ F q c j T ix cs S s d at_ en w):w.cell? ⟨q,0,QK⟩=QJ (YK (QJ ⟨c,0,QK⟩)):=QX h.cur 0
theorem gv_.c4 (h:gv_ F q c j T ix cs S s d at_ en w):w.cell? ⟨q,4,QK⟩=QJ s:=QX h.cur 4
theorem gv_.c5 (h:gv_ F q c j T ix cs S s d at_ en w):w.cell? ⟨q,5,QK⟩=QJ (QY QU (d:Nat)):=QX h.cur 5
theorem gv_.ca (h:gv_ F q c j T ix cs S s d at_ en w) {e:Nat} (b:e<4):w.cell? ⟨q,6+e*2,none⟩=some (QY QU (at_ e:Nat)):=by rcases (show e=0\/e=1\/e=2\/e=3 by omega) with rfl | rfl | rfl | rfl<;>exact QX h.cur _
theorem gv_.ce (h:gv_ F q c j T ix cs S s d at_ en w) {e:Nat} (b:e<4):w.cell? ⟨q,6+e*2+1,none⟩=some (QY QU (en e:Nat)):=by rcases (show e=0\/e=1\/e=2\/e=3 by omega) with rfl | rfl | rfl | rfl<;>exact QX h.cur _
theorem ze_.stand (h:ze_ F c j T ix cs S s w) {n:Nat} (hn:n<ix.length):∃(I Z J D c2 k:Nat) (t:e_) (ss:Nat->XJ),S = QQ (QJ ⟨I,0,QK⟩) T.length Z/\s = QQ (QJ ⟨J,D,QK⟩) ix.length c2/\ix[n]?=QJ k/\T[k]?=QJ t/\(Kof T ix)[n]?=QJ t/\k<T.length /\
    (∀w':QV,ze_ F c j T ix cs S s w'->w'.cell? ⟨J,D+n,QK⟩=QJ (QY QU (k:Nat))/\∀e,e<3->w'.rangeAt I (k*18+e*6) (c_ (t.get e) (ss e)).toList)/\(∀e,e<3->∃A cap,ss e = QQ A 0 cap):=by
 obtain⟨k,C⟩:∃k,ix[n]?=QJ k:=⟨_,XQ hn⟩;have r:=h.ixo.lt (YZ C);obtain⟨t,ht⟩:∃t,T[k]?=QJ t:=⟨_,XQ r⟩;obtain⟨A,cap,rfl,a0,V⟩:=h.row.form;obtain⟨B,M,rfl,a1,W⟩:=h.nums;obtain⟨I,rfl,_,a2⟩:=V (by omega);obtain⟨J,D,rfl,_,a3⟩:=W (by omega);obtain⟨_,_,ss,X,U⟩:=h.row.el k t ht;refine⟨I,cap,J,D,M,k,t,ss,rfl,rfl,C,ht,Li_ C ht,r,λw' O=>⟨?_,λe he i v Y=>?_⟩,X⟩
 ·obtain⟨B',L,f,_,x⟩:=O.nums;injection f with f _ _;obtain⟨r3,o3,b,_,z⟩:=x (by omega);rw[<-f]at b;injection b with b;injection b with b e4;subst b e4;exact z n k C
 ·obtain⟨A',L,f,_,x⟩:=O.row.form;injection f with f _ _;obtain⟨r3,b,_,z⟩:=x (by omega);rw[<-f]at b;injection b with b;injection b with b;subst b;have hi:i<6:=(List.getElem?_eq_some_iff.1 Y).1;rw[show k*18+e*6+i=k*18+(e*6+i) by omega,z k r (e*6+i) (by omega),U,u_ t ss e he i hi,<-Array.getElem?_toList];exact Y
end
theorem a2_:(Tryz.prog.info? 39).map (·.size)=some 6:=by kernel_rfl
section
variable {P:Program} {md:Region.Mode} {ops:Array Oper} {Q:Exit->Act->QV->Prop} {S:QV->Prop} {fuel:Nat} {listed:Array Bool} {a:Act} {w:QV}
theorem r_ (i d:Nat) (b:ops[i]?.map (·.dst)=QJ (QJ d)) (e:ao_ ops i a=QJ false) (B:Region.noSelect ops=true) (x:Region.free md ops listed i=true) (z:(Region.ready md ops listed).contains i=true)
    (r:∀c a w,Q (.panic c) (a.put (QJ d) undef) w->Q (.panic c) a w) (f:S w)
    (h:S w->H_ (wpAnyH P md ops Q S fuel (listed.setIfInBounds i true) (a.put (QJ d) undef) w)):H_ (wpAnyH P md ops Q S (fuel+1) listed a w):=by
 unfold ao_ at e
 cases ho:ops[i]? with
 | none=>rw[ho]at b;cases b
 | some o=>
  rw[ho]at b e;simp only[Option.map_some,Option.some.injEq]at b e;exact⟨wpAnyH_take ho B x z (λc a w h=>r c a w (by rw[<-b];exact h)) (.inr ⟨e,rfl⟩) f (by rw[b];exact (h f).o)⟩
end
structure M0_ (q gp gv b1 b2 b3 low:Nat) (w:QV):Prop where
 past:w.cell? ⟨b1,0,QK⟩=QJ (.func (.func gp) #[] #[YK (QJ ⟨gv,0,QK⟩)])
 key:w.cell? ⟨b2,0,QK⟩=QJ (.func (.func 109) #[YK (QJ ⟨q,0,QK⟩)] #[])
 low:w.cell? ⟨b3,0,QK⟩=QJ (QY QU (low:Nat))
theorem M0_.on {q b e b1 b2 b3 low:Nat} {w w':QV} (h:M0_ q b e b1 b2 b3 low w) (hb:XW w.heap.size w w'):M0_ q b e b1 b2 b3 low w':=
 ⟨(hb.cell (p:=⟨b1,0,QK⟩) (by_ h.past)).trans h.past,(hb.cell (p:=⟨b2,0,QK⟩) (by_ h.key)).trans h.key,(hb.cell (p:=⟨b3,0,QK⟩) (by_ h.low)).trans h.low⟩
structure pf_ (F:Nat->Prop) (c:Nat) (T:List e_) (l:List Nat) (cs:Nat->Array XJ) (S s:XJ) (w:QV):Prop where
 st:w.cell? ⟨c,0,QK⟩=QJ S
 row:oc_ F w cs T S
 nums:ob_ F w l s
 lt:∀n,n∈l->n<T.length
 fc:F c
 fl:∀b,F b->b<w.heap.size
structure Cp_ (F:Nat->Prop) (c:Nat) (T:List e_) (l:List Nat) (cs:Nat->Array XJ) (S s:XJ) (b1 b2 b3 b4 p:Nat) (P:e_) (ps:Nat->XJ) (w:QV):Prop where
 r:pf_ F c T l cs S s w
 v1:w.cell? ⟨b1,0,QK⟩=QJ (YK (QJ ⟨c,0,QK⟩))
 v2:w.cell? ⟨b2,0,QK⟩=QJ s
 v3:w.cell? ⟨b3,0,QK⟩=QJ (QY QU (p:Nat))
 v4:w.heap[b4]?=QJ (XX (N_ P ps) 99 (0,0))
section
variable {F:Nat->Prop} {c:Nat} {T:List e_} {l:List Nat} {cs:Nat->Array XJ} {S s:XJ} {b1 b2 b3 b4 p:Nat} {P:e_} {ps:Nat->XJ} {w w':QV}
theorem pf_.turn (h:pf_ F c T l cs S s w) {r:Nat->Prop} (ht:Turn r w w') (h1:∀b,F b->¬r b):pf_ F c T l cs S s w':=
 have e:∀b,F b->w'.heap[b]?=w.heap[b]?:=λb hb=>ht.block b (h.fl b hb) (h1 b hb)
 ⟨(World.cell?_of_block (a:=⟨c,0,QK⟩) (e c h.fc)).trans h.st,h.row.keep λ_ f=>World.cell?_of_block (e _ f),h.nums.keep λ_ f=>World.cell?_of_block (e _ f),h.lt,h.fc,λb hb=>XZ (h.fl b hb) ht.size⟩
theorem pf_.on (h:pf_ F c T l cs S s w) (hb:XW w.heap.size w w'):pf_ F c T l cs S s w':=
 h.turn (Turn.of_below hb) (λb e h2=>by have:=h.fl b e;have h2:w.heap.size<=b:=h2;omega)
theorem Cp_.on (h:Cp_ F c T l cs S s b1 b2 b3 b4 p P ps w) (hb:XW w.heap.size w w'):Cp_ F c T l cs S s b1 b2 b3 b4 p P ps w':=
 ⟨h.r.on hb,(hb.cell (p:=⟨b1,0,QK⟩) (by_ h.v1)).trans h.v1,(hb.cell (p:=⟨b2,0,QK⟩) (by_ h.v2)).trans h.v2,(hb.cell (p:=⟨b3,0,QK⟩) (by_ h.v3)).trans h.v3,(hb.block b4 (b_ h.v4)).trans h.v4⟩
theorem Cp_.drew (h:Cp_ F c T l cs S s b1 b2 b3 b4 p P ps w):Cp_ F c T l cs S s b1 b2 b3 b4 p P ps w.drew:=h.on (XV _ _).drew
theorem pf_.stand (h:pf_ F c T l cs S s w) {n k:Nat} (M:l[n]?=QJ k):∃(D Z I C c2:Nat) (t:e_) (ss:Nat->XJ),S = QQ (QJ ⟨D,0,QK⟩) T.length Z/\s = QQ (QJ ⟨I,C,QK⟩) l.length c2/\T[k]?=QJ t/\k<T.length /\
    (∀w':QV,pf_ F c T l cs S s w'->w'.cell? ⟨I,C+n,QK⟩=QJ (QY QU (k:Nat))/\∀e,e<3->w'.rangeAt D (k*18+e*6) (c_ (t.get e) (ss e)).toList)/\(∀e,e<3->∃A cap,ss e = QQ A 0 cap):=by
 have hn:n<l.length:=(List.getElem?_eq_some_iff.1 M).1;have r:=h.lt k (YZ M);obtain⟨t,ht⟩:∃t,T[k]?=QJ t:=⟨_,XQ r⟩;obtain⟨A,cap,rfl,a0,V⟩:=h.row.form;obtain⟨B,L,rfl,a1,W⟩:=h.nums;obtain⟨D,rfl,_,a2⟩:=V (by omega);obtain⟨I,C,rfl,_,a3⟩:=W (by omega);obtain⟨_,_,ss,X,U⟩:=h.row.el k t ht;refine⟨D,cap,I,C,L,t,ss,rfl,rfl,ht,r,λw' O=>⟨?_,λe he i v Y=>?_⟩,X⟩
 ·obtain⟨B',J,f,_,x⟩:=O.nums;injection f with f _ _;obtain⟨r3,o3,b,_,z⟩:=x (by omega);rw[<-f]at b;injection b with b;injection b with b e4;subst b e4;exact z n k M
 ·obtain⟨A',J,f,_,x⟩:=O.row.form;injection f with f _ _;obtain⟨r3,b,_,z⟩:=x (by omega);rw[<-f]at b;injection b with b;injection b with b;subst b;have hi:i<6:=(List.getElem?_eq_some_iff.1 Y).1;rw[show k*18+e*6+i=k*18+(e*6+i) by omega,z k r (e*6+i) (by omega),U,u_ t ss e he i hi,<-Array.getElem?_toList];exact Y
end
section
variable {F:Nat->Prop} {c:Nat} {T:List e_} {l:List Nat} {cs:Nat->Array XJ} {S s:XJ} {b1 b2 b3 b4 p:Nat} {P:e_} {ps:Nat->XJ} {w w':QV}
end
structure M4_ (F:Nat->Prop) (c:Nat) (T:List e_) (cs:Nat->Array XJ) (S:XJ) (z z8:Nat) (P:e_) (ps:Nat->XJ) (j:Nat) (w0:QV) (e:Nat) (l:List Nat) (s:XJ) (wx:QV):Prop where
 r:pf_ F c T l cs S s wx
 v1:wx.cell? ⟨z,0,QK⟩=QJ (YK (QJ ⟨c,0,QK⟩))
 v2:wx.heap[z8]?=QJ (XX #[s] 94 (0,0))
 v4:wx.heap[z+1]?=QJ (XX (N_ P ps) 99 (0,0))
 hb:XW w0.heap.size w0 wx
 mid:k7_ (aa_ j) T P e l
 z8z:w0.heap.size<=z8/\z8≠z/\z8≠z+1
 ll:l.length<=65536
theorem M4_.next {F:Nat->Prop} {c:Nat} {T:List e_} {cs:Nat->Array XJ} {S:XJ} {z x:Nat} {P:e_} {ps:Nat->XJ} {j:Nat} {w0:QV} {e:Nat} {l:List Nat} {s:XJ} {wx D:QV} (h:M4_ F c T cs S z x P ps j w0 e l s wx) (O:∀b,F b->b<w0.heap.size) (hb:XW wx.heap.size wx D) {J:Nat} {C:List Nat} {B:XJ}
    (M:k7_ (aa_ j) T P J C) (W:∀w',ob_ F w' l s->ob_ F w' C B) (V:C.length<=l.length):M4_ F c T cs S z x P ps j w0 J C B (D.setCell ⟨x,0,QK⟩ B):=by
 have ht:=(Turn.refl (λb=>b=x) D).setCell (p:=⟨x,0,QK⟩) (.inr rfl) B;have f:=(h.r.on hb).turn ht (λb L e=>by have:=O b L;have:=h.z8z.1;omega);have v2:=(hb.block x (b_ h.v2)).trans h.v2;have v1:=(hb.cell (p:=⟨z,0,QK⟩) (by_ h.v1)).trans h.v1;have v4:=(hb.block (z+1) (b_ h.v4)).trans h.v4;have I:=h.hb.trans (hb.mono h.hb.size);refine⟨⟨f.st,f.row,W _ f.nums,M.lt,f.fc,f.fl⟩,?_,heap_setCell_same D x 0 _ _ B v2,ht.heap v4 (λe=>h.z8z.2.2 e.symm),I.trans ⟨ht.os,ht.tape,ht.output,ht.size,λk U=>ht.block k (XZ U I.size) (λe=>by have:=h.z8z.1;omega)⟩,M,h.z8z,ZX V h.ll⟩;exact (World.cell?_of_block (a:=⟨z,0,QK⟩) (ht.block z (by_ v1) (λe=>h.z8z.2.1 e.symm))).trans v1
theorem K7_ (A B:Option Addr) (ca q cb:Nat) (f:XJ) (w:QV) :
    Calls QW 193 #[QQ A 0 ca,QQ B q cb,f] w (n_ (decide (q=0)) w):=by
 unfold n_;by_cases h:q=0
 ·subst h;go_enter func193,ntmps193
  go_wp2_with fail;go_loopw [17] (λs wx=>s = QY QU 0/\wx=w) (λ_ _=>0)
  case atStart=>exact⟨rfl,rfl⟩
  case round=>
   obtain⟨rfl,rfl⟩:=hrel;go_wp2_with fail;go_ret;exact⟨rfl,XV _ _⟩
 ·have e:((0:Int) != (q:Int))=true:=by simp;omega
  have b:decide (q=0)=false:=dF_ h;rw[b];go_enter func193,ntmps193
  go_wp2_with fail;go_ret;exact⟨rfl,XV _ _⟩
theorem Es_ (a b:g_) (hl:a.list=[]) (A B:Option Addr) (ca cb:Nat) (w:QV) :
    Calls QW 123 #[.agg (c_ a (QQ A 0 ca)),.agg (c_ b (QQ B b.list.length cb))] w (n_ (cv_ a b) w):=by
 obtain⟨k,t,n,s,x,l⟩:=a;obtain⟨X,M,J,L,I,C⟩:=b;simp only[g_.list]at hl;subst hl;unfold c_;simp only[g_.kind,g_.truth,g_.num,g_.text,g_.extra,g_.list];obtain⟨q,HQ⟩:=a_ C.length;rw[HQ.o];have D:=q_ (F_ w (XX #[QY QU k,XY t,QY QU n,QZ s,QZ x,QQ A 0 ca] 39) (XX #[QY QU X,XY M,QY QU J,QZ L,QZ I,QQ B q cb] 39));have Z:=q_ (λ(f:XJ) (W:QV)=>K7_ A B ca q cb f W);by_cases h1:k=X
 ·subst h1;by_cases h2:t=M
  ·subst h2;by_cases O:n=J
   ·subst O;by_cases U:s=L
    ·subst U;by_cases V:x=I
     ·subst V
      have hb:decide (q=0)=cv_ (.mk k t n s x []) (.mk k t n s x C):=by
       unfold cv_;rw[<-HQ.o]
       cases C with
       | nil=>simp
       | cons y r=>simp
      have Y:=q_ hb;unfold n_ at Z;obtain⟨v,Hv⟩:=a_ (decide (q=0));rw[Hv.o]at Z Y;clear hb Hv;go_enter func123,ntmps123
      go_wp2_with fail;refine (Z.o _ _).mono ?_;rintro e w5 ⟨rfl,a0⟩;go_wp2_with fail;go_ret;exact E_ Y.o (D.o.trans (a0.mono D.o.size))
     ·have t5:=br_ V;have h:=cw_ (a:=.mk k t n s x []) (b:=.mk k t n s I C) (by simp[V]);have z:=q_ h;clear h V;go_enter func123,ntmps123
      go_wp2_with fail;go_ret;exact E_ z.o.symm D.o
    ·have t4:=br_ U;have h:=cw_ (a:=.mk k t n s x []) (b:=.mk k t n L I C) (by simp[U]);have z:=q_ h;clear h U;go_enter func123,ntmps123
     go_wp2_with fail;go_ret;exact E_ z.o.symm D.o
   ·have t3:(n==J)=false:=by simpa using O
    have h:=cw_ (a:=.mk k t n s x []) (b:=.mk k t J L I C) (by simp[O]);have z:=q_ h;clear h O;go_enter func123,ntmps123
    go_wp2_with fail;go_ret;exact E_ z.o.symm D.o
  ·have t2:(t==M)=false:=by simpa using h2
   have h:=cw_ (a:=.mk k t n s x []) (b:=.mk k M J L I C) (by simp[h2]);have z:=q_ h;clear h h2;go_enter func123,ntmps123
   go_wp2_with fail;go_ret;exact E_ z.o.symm D.o
 ·have t1:(k==X)=false:=by simpa using h1
  have h:=cw_ (a:=.mk k t n s x []) (b:=.mk X M J L I C) (by simp[h1]);have z:=q_ h;clear h h1;go_enter func123,ntmps123
  go_wp2_with fail;go_ret;exact E_ z.o.symm D.o
end
section
open Go Go.RowKit Go.Shelf Go.Lib Go.Sort Go.Proofs Go.Maps
end
section
open Go Go.RowKit Go.Maps
def if_ (F:Nat->Prop) (w:QV) (q j:Nat) (T:List e_) (c:f5_):Prop:=
 ∃(b:Nat) (ix:List Nat) (cs:Nat->Array XJ) (S s:XJ) (at_ en:Nat->Nat),gv_ F q b j T ix cs S s c.way.length at_ en w/\ie_ (Kof T ix) (aa_ j) c at_ en
section
variable {F:Nat->Prop} {q c j:Nat} {T:List e_} {ix:List Nat} {cs:Nat->Array XJ} {S s:XJ} {d:Nat} {at_ en:Nat->Nat} {w w':QV}
end
theorem if_.on {F:Nat->Prop} {w w':QV} {q j:Nat} {T:List e_} {c:f5_} (h:if_ F w q j T c) (hb:XW w.heap.size w w'):if_ F w' q j T c:=by obtain⟨b,ix,cs,S,s,at_,en,f,e⟩:=h;exact⟨b,ix,cs,S,s,at_,en,f.on hb,e⟩
theorem ie_.stood {K:List e_} {w:Way} {c:f5_} {at_ en:Nat->Nat} (h:ie_ K w c at_ en):decide (0<c.way.length/\at_ c.way.length<en c.way.length)=(decide (0<c.way.length) && !c.fin):=by
 by_cases h0:0<c.way.length
 ·have:=h.stands h0
  cases hf:c.fin with
  | true=>
   rw[hf]at this;rw[dF_ (λh=>by have:=this.1 h.2;cases this)];simp
  | false=>
   rw[hf]at this;rw[dT_ ⟨h0,this.2 rfl⟩,dT_ h0];rfl
 ·rw[dF_ (λh=>h0 h.1),dF_ h0];rfl
theorem cn_ {P:Program} {e:Func} {a u:Tmp} {T z:TypeId} {w:QV} (h:e.results=#[.cell a T,.tmp u]) {b:Array XJ} {g:Nat} (ht:b.getD a undef = YK (QJ ⟨g,0,QK⟩)) {c:Array XJ} (D:w.heap[g]?=QJ (XX c z (0,0)))
    (d:TypeDesc) (C:P.underlying T=QJ d) (B:d.isRow=true) (hi:(P.info? T).map (·.size)=QJ c.size) {x:XJ} (I:b.getD u undef=x):(results e b).run P w = .ok (.tuple #[.agg c,x]) w:=by
 have:=run_loadVar_mid (P:=P) w g 0 T c.toList d (m_ D) C B (by rw[Array.length_toList];exact hi);rw[Array.toArray_toList]at this;have f:b[a]?.getD undef = YK (QJ ⟨g,0,QK⟩):=by rw[<-ht];simp
 have r:b[u]?.getD undef=x:=by rw[<-I];simp
 simp[results,h,f,asAddr,this,r]
def ou_ (t:ByteArray):g_:=.mk 8 false 0 t ⟨#[]⟩ []
theorem Gh_ (t:e_) (W:QV):(Instr.build 41 #[(0,.agg (c_ t.s (QQ QK 0 0))),(1,.agg (c_ t.p (QQ QK 0 0))),(2,.agg (c_ t.o (QQ QK 0 0)))]).run QW W = .ok (.agg (N_ t va_)) W:=by kernel_rfl
section
variable {P:Program} {ops:Array Oper} {rest:List Oper} {op:Oper} {a:Act} {w:QV} {Q:Exit->Act->QV->Prop}
theorem ul_ (f:op.guard=QK) (ty:TypeId) (n:Nat) (b:Array (Nat×Operand)) (B:op.op = .buildSlice ty n b) (ps:Array (Nat×XJ)) (r:(b.map λ(i,x)=>(i,a.eval x))=ps) (v:XJ) (w':QV) (C:(UQ ty n ps).run P w = .ok v w') (h:wpList P ops Q rest (a.put op.dst v) w'):wpList P ops Q (op::rest) a w:=
 wpList_plain f λ_ z=>by
  unfold Oper.wp execOp;simp only[B];have e:(UQ ty n (b.map λ(i,x)=>(i,a.eval x))).run P w = .ok v w':=by rw[r];exact C
  simp only[Sem.run_bind,Sem.run_pure,e,Result.andThen_ok];exact z _ _ h
end
def e_.set (t:e_) (p:Nat) (v:g_):e_:=if p=0 then ⟨v,t.p,t.o⟩ else if p=1 then ⟨t.s,v,t.o⟩ else ⟨t.s,t.p,v⟩
end
section
open Go
section
variable {T:List e_} {w:Way}
end
def wv (w:Way) (t:e_) (d:Nat):List g_:=[t.get (w.get 0),t.get (w.get 1),t.get (w.get 2)].take d
section
variable {T K:List e_} {w:Way}
theorem Be_ (t:e_) {d:Nat} (b:d<=3):(wv w t d).length=d:=by unfold wv;rw[UJ];simp only[List.length_cons,List.length_nil];omega
theorem Mt_ (t:e_) {d e:Nat} (b:e<d) (f:d<=3):(wv w t d)[e]?=some (t.get (w.get e)):=by unfold wv;rw[List.getElem?_take_of_lt b];rcases (show e=0\/e=1\/e=2 by omega) with rfl | rfl | rfl<;>rfl
theorem Cu_ {t u:e_} {d:Nat} (f:d<=3):bk_ w (wv w t d) u↔∀e,e<d->u.get (w.get e)=t.get (w.get e):=by
 constructor
 ·intro h e x;exact h e _ (Mt_ t x f)
 ·intro h e v b;have r:e<d:=by have:=(List.getElem?_eq_some_iff.1 b).1;rwa [Be_ t f]at this
  rw[Mt_ t r f]at b;injection b with b;rw[<-b];exact h e r
theorem O8_ (h:h6_ T K w) {x:e_} {d:Nat} (M:d<=3) {n m r:Nat} {s t u:e_} (D:K[n]?=QJ s) (ht:K[m]?=QJ t) (O:K[r]?=QJ u) (h1:n<=m) (h2:m<=r)
    (f:bk_ w (wv w x d) s) (z:bk_ w (wv w x d) u):bk_ w (wv w x d) t:=by
 rw[Cu_ M]at f z ⊢;intro e;induction e using Nat.strongRecOn with
 | _ e I=>
  intro C;have J:=kd_ (d:=e) (by omega) (h.le D ht h1) λb B=>by rw[f b (by omega),I b B (by omega)];exact fl_ _
  have L:=kd_ (d:=e) (by omega) (h.le ht O h2) λb B=>by rw[z b (by omega),I b B (by omega)];exact fl_ _
  rw[f e C]at J;rw[z e C]at L;have V:=fk_ (t.get (w.get e)) (x.get (w.get e));have U:af_ (x.get (w.get e)):=by rw[<-f e C];exact (h.scal' D).get _
  exact d9_ ((h.scal' ht).get _) U (by omega)
def DnA (K:List e_) (w:Way) (m d:Nat) (c:f5_):Prop:=∃t,K[m]?=QJ t/\d<3/\c=⟨wv w t d,false⟩/\∀n u,n<m->K[n]?=QJ u->¬bk_ w (wv w t d) u
def UpA (K:List e_) (w:Way) (m d:Nat) (c:f5_):Prop:=∃s,K[m]?=QJ s/\d<3/\c=⟨wv w s (d+1),false⟩/\∀n u,m<n->K[n]?=QJ u->¬bk_ w (wv w s (d+1)) u
theorem G3_ (b:0<K.length):DnA K w 0 0 ⟨[],false⟩:=⟨K[0],XQ b,by omega,rfl,λn u h=>absurd h (by omega)⟩
end
end
section
open Go Go.RowKit Go.Maps
theorem o7_:(Tryz.prog.info? 41).map (λi=>(i.zero,i.size,i.bytes))=QJ (QJ (.agg #[QY QU 0,XY false,QY QU 0,QZ ⟨#[]⟩,QZ ⟨#[]⟩,QQ QK 0 0,QY QU 0,XY false,QY QU 0,QZ ⟨#[]⟩,QZ ⟨#[]⟩,QQ QK 0 0,QY QU 0,XY false,QY QU 0,QZ ⟨#[]⟩,QZ ⟨#[]⟩,QQ QK 0 0]),18,240):=by kernel_rfl
theorem J2_ {op:Oper} {a:Act} {K:Act->QV->Prop} {Q:Exit->Act->QV->Prop} (s x:Operand) (ho:op.op = .call { callee:=.builtin .append,args:=#[s,x],argTypes:=#[22,22] })
    {wr:QV} {F:Nat->Prop} {L:List e_} {S:XJ} {t:e_} {c:Array XJ} {n:Nat} (hS:a.eval s=S) (B:x_ 41 18 TrS wr F L S) (hL:L.length=n) (hx:a.eval x = QQ (QJ ⟨wr.heap.size,0,QK⟩) 1 1) (z:∀w F,TrS w F t c) (a0:n<=1000000) (hF:∀b,F b->b<wr.heap.size)
    (h:∀g cap w',x_ 41 18 TrS w' (λb=>F b\/b=g) (L++[t]) (QQ (QJ ⟨g,0,QK⟩) (n+1) cap)->wr.grownBy w' S.ownBlock->(S.ownBlock=QJ g\/wr.heap.size<=g)->g<w'.heap.size->K (a.put op.dst (QQ (QJ ⟨g,0,QK⟩) (n+1) cap)) w') :
    op.wp QW a (wr.alloc (XX c 41)) K Q:=by
 subst hL;obtain⟨i0,hi,O,U,V⟩:=info_parts o7_;obtain⟨cs,f,Z,C,hr⟩:=B;have r:c.size=18:=by obtain⟨_,_,ss,_,e⟩:=z wr F;rw[e];rfl
 have D:∀u∈c.toList,u.oneCell'=true:=by obtain⟨_,_,ss,hs,e⟩:=z wr F;rw[e];exact ck_ t ss λq hq=>by obtain⟨A,cp,e⟩:=hs q hq;exact⟨A,0,cp,e⟩
 refine wp_append_lies _ s x _ ho 0 41 i0 _ 18 240 underlying22 hi O U V rfl (by decide) S L.length (R_ cs L.length) hS (f.alloc _) ⟨wr.heap.size,0,none⟩ 1 1 c.toList hx (by rw[Array.length_toList,r]) (World.news_of_block (XU wr _)) D (by omega) (by unfold maxLen;omega) (by omega) (Nat.zero_le _) (wr.heap.size+1) (by simp) λg cap w' h1 h2 X Y=>?_;have I:=ak_ h2;have J:S.ownBlock=some g\/wr.heap.size<=g:=X.imp id (λe=>by rw[e];omega);have M:=x_.snoc (x:=t) (c:=c) (G:=λ_=>False) TrS.good ⟨cs,f,Z,C,hr⟩ (z _ _) r (λb hb=>hb.elim) hF (λb hb=>hb.elim) (λa1 W=>by rw[pb_ W f];exact h1) I J;exact h g cap w' (M.mono TrS.good λb hb=>by rcases hb with hb | hb | hb;exact .inl hb;exact hb.elim;exact .inr hb) I J Y
theorem Gf_ (C D I J L M O U V W b e f h r x z B:XJ) (w:QV):(UQ 22 1 #[(0,.agg #[C,D,I,J,L,M,O,U,V,W,b,e,f,h,r,x,z,B])]).run QW w = .ok (QQ (QJ ⟨w.heap.size,0,QK⟩) 1 1) (w.alloc (XX #[C,D,I,J,L,M,O,U,V,W,b,e,f,h,r,x,z,B] 41)):=by kernel_rfl
theorem jc_ (c:Array XJ) (b:c.size=18) (w:QV):(UQ 22 1 #[(0,.agg c)]).run QW w = .ok (QQ (QJ ⟨w.heap.size,0,QK⟩) 1 1) (w.alloc (XX c 41)):=by
 obtain⟨l⟩:=c;match l,b with
 | [x0,x1,x2,x3,x4,x5,x6,x7,x8,x9,x10,x11,x12,x13,x14,x15,x16,x17],_=>exact Gf_ x0 x1 x2 x3 x4 x5 x6 x7 x8 x9 x10 x11 x12 x13 x14 x15 x16 x17 w
end
section
open Go
def WkA (K:List e_) (w:Way) (m d:Nat) (c:f5_) (wt:e_) (G:List e_):Prop:=DnA K w m d c/\(∀t,K[m]?=QJ t->∀e,e<d->wt.get e=t.get (w.get e))/\G=K.take m
def WkB (K:List e_) (w:Way) (m d:Nat) (c:f5_) (wt:e_) (G:List e_):Prop:=UpA K w m d c/\(∀t,K[m]?=QJ t->∀e,e<d+1->wt.get e=t.get (w.get e))/\G=K.take (m+1)
section
variable {T K:List e_} {w:Way} {m d:Nat} {c:f5_} {wt:e_} {G:List e_}
theorem WkA.start (f:0<K.length) (wt:e_):WkA K w 0 0 ⟨[],false⟩ wt []:=⟨G3_ f,λ_ _ e b=>absurd b (by omega),rfl⟩
theorem WkA.len (h:WkA K w m d c wt G):c.way.length=d/\d<3/\m<K.length:=by obtain⟨⟨t,ht,b,rfl,_⟩,_,_⟩:=h;exact⟨Be_ t (by omega),b,(List.getElem?_eq_some_iff.1 ht).1⟩
theorem WkB.len (h:WkB K w m d c wt G):c.way.length=d+1/\d<3/\m<K.length:=by obtain⟨⟨t,ht,b,rfl,_⟩,_,_⟩:=h;exact⟨Be_ t (by omega),b,(List.getElem?_eq_some_iff.1 ht).1⟩
def Ox_ (m d:Nat):Nat:=8*m+d
def Oy_ (m d:Nat):Nat:=8*m+5-d
end
end
section
open Go Go.RowKit Go.Maps
def OpR:bu_ (Int×g_):=λw F o c=>∃s,c=#[QY QU o.1]++c_ o.2 s/\VRd w F o.2 (.agg (c_ o.2 s))
theorem OpR.good:OpR.Good:=⟨fun⟨s,e,h⟩ hk=>⟨s,e,h.keep hk⟩,fun⟨s,e,h⟩ hF=>⟨s,e,h.mono hF⟩⟩
theorem OpR.cells {w:QV} {F:Nat->Prop} {L:List (Int×g_)} {A:Option Addr} {n:Nat} (h:SRd 7 OpR w F L A n) {k:Nat} {o:Int×g_} (x:L[k]?=QJ o) :
    ∃ad s,A=QJ ad/\F ad.block/\w.cell? (ad.add (k*7))=QJ (QY QU o.1)/\(∀j,j<(c_ o.2 s).size->w.cell? (((ad.add (k*7)).add 1).add j)=(c_ o.2 s)[j]?)/\VRd w F o.2 (.agg (c_ o.2 s)):=by
 obtain⟨ad,c,e,r,B,b,s,rfl,z⟩:=h.at_ x;refine⟨ad,s,e,r,?_,λj f=>?_,z⟩
 ·have:=b 0 (by omega);rw[Nat.add_zero]at this;rw[this];rfl
 ·have f:j<6:=f;have:=b (1+j) (by omega);rw[add_of_add,add_of_add,this,Array.getElem?_append_right (by show 1<=1+j;omega)];congr 1
  show 1+j-1=j;omega
structure Two (F:Nat->Prop) (w0:QV) (q1 q2 j:Nat) (T:List e_) (c d:f5_) (wx:QV):Prop where
 b:XW w0.heap.size w0 wx
 c1:if_ F wx q1 j T c
 c2:if_ F wx q2 j T d
 ne:q1≠q2
 l1:w0.heap.size<=q1
 l2:w0.heap.size<=q2
section
variable {F:Nat->Prop} {w0 w w':QV} {q1 q2 j:Nat} {T:List e_} {c d:f5_}
theorem if_.turn {q:Nat} (h:if_ F w q j T c) {S:Nat->Prop} (ht:Turn S w w') (h1:∀b,F b->¬S b) (h2:¬S q):if_ F w' q j T c:=by obtain⟨e,ix,cs,S,s,at_,en,r,f⟩:=h;exact⟨e,ix,cs,S,s,at_,en,r.turn ht h1 h2,f⟩
theorem if_.lt {q:Nat} (h:if_ F w q j T c):q<w.heap.size:=by obtain⟨e,ix,cs,S,s,at_,en,b,f⟩:=h;exact b_ b.cur
theorem Two.on (h:Two F w0 q1 q2 j T c d w) (hb:XW w.heap.size w w'):Two F w0 q1 q2 j T c d w':=
 ⟨h.b.trans (hb.mono h.b.size),h.c1.on hb,h.c2.on hb,h.ne,h.l1,h.l2⟩
end
theorem vi_ (w:QV) (F:Nat->Prop) {v:g_} (h:v.list=[]) (A:Option Addr) (cap:Nat):VRd w F v (.agg (c_ v (QQ A 0 cap))):=by have:=VRd.mk (w:=w) (F:=F) v A cap ⟨0,0,none⟩ (λ_=>#[]) (by rw[h];exact Nat.zero_le _) (by rw[h];intro h;cases h) (by rw[h];intro i h;cases h) (by rw[h];intro i x h;simp at h);rw[h]at this;exact this
theorem jq_ (a b:g_) (I:V_ a.list<=999999999) (F G:Nat->Prop) (e f:XJ) (w:QV) (h:∀g,F g->g<w.heap.size) (r:∀g,G g->g<w.heap.size) (h1:VRd w F a e) (h2:VRd w G b f) :
    Calls QW 22 #[e,f] w (n_ (cv_ a b) w):=by
 obtain⟨A,ca,rfl,_,la⟩:=h1.inv;obtain⟨B,cb,rfl,_,lb⟩:=h2.inv;exact nu_ a b A B ca cb w h r la lb (λw' x z C D=>Cg_ (V_ a.list+1) a.list b.list (by omega) F G A B _ _ ca cb w' (by omega) C D x z)
structure t9_ (v:g_):Prop where
 list:v.list=[]
 fit:cg_ v
 k5:v.kind≠5
theorem Er_ {a b:g_} (e:t9_ a) (hb:t9_ b) (A B:Option Addr) (ca cb:Nat) (w:QV) :
    Calls QW 22 #[.agg (c_ a (QQ A 0 ca)),.agg (c_ b (QQ B 0 cb))] w (n_ (cv_ a b) w):=
 jq_ a b (by rw[e.list];decide) (λ_=>False) (λ_=>False) _ _ w (λ_ h=>h.elim) (λ_ h=>h.elim) (vi_ w _ e.list A ca) (vi_ w _ hb.list B cb)
section
variable {P:Program} {ops:Array Oper} {rest:List Oper} {op:Oper} {a:Act} {w:QV} {Q:Exit->Act->QV->Prop}
theorem C_ (b:Region.wanted op (yielded ops a.tmps)=true) (ty:TypeId) (x:Operand) (z:op.op = .load ty x) {p:Addr} (C:a.eval x = .pointer (QJ p)) (c:Array XJ) (d:TypeDesc) (f:∀j,j<c.size->w.cell? (p.add j)=c[j]?)
    (B:P.underlying ty=QJ d) (r:d.isRow=true) (hi:(P.info? ty).map (·.size)=QJ c.size) (h:wpList P ops Q rest (a.put op.dst (.agg c)) w):wpList P ops Q (op::rest) a w:=
 wpList_step λK e=>by
  rw[iP_ b];unfold Oper.wp execOp;simp only[z,C,Instr.loadAt,Instr.sureAddr,Sem.run_bind,Sem.run_pure,Result.andThen_ok,v_ w p ty c d f B r hi];exact e _ _ h
end
theorem nq_ {w:QV} {g:Nat} {c:Array XJ} {T:TypeId} {b:Nat×Nat} (h:w.heap[g]?=QJ (XX c T b)) (j:Nat) (_:j<c.size):w.cell? ((⟨g,0,QK⟩:Addr).add j)=c[j]?:=by rw[Addr.add_mid,VQ];exact UU w g j c T b h
theorem A_ (a:Addr) (j:Nat):(a.add j).block=a.block:=by unfold Addr.add;split<;>rfl
theorem Ay_ {w:QV} {F:Nat->Prop} {cs:Nat->Array XJ} {T:List e_} {A:Option Addr} {n cap:Nat} (h:oc_ F w cs T (QQ A n cap)) {k:Nat} {t:e_} (ht:T[k]?=QJ t) :
    ∃ad ss,A=QJ ad/\F ad.block/\(∀i,i<3->∃A cap,ss i = QQ A 0 cap)/\∀j,j<(N_ t ss).size->w.cell? ((ad.add (k*18)).add j)=(N_ t ss)[j]?:=by
 obtain⟨h0,A',x,e,_,h2⟩:=h;injection e with e1 e2 e3;have I:=(List.getElem?_eq_some_iff.1 ht).1;obtain⟨r,z,B,C⟩:=h2 (by omega);obtain⟨_,_,ss,f,b⟩:=h0 k t ht;refine⟨⟨r,0,QK⟩,ss,by rw[e1,z],B,f,λj D=>?_⟩;rw[add_of_add,Addr.add_mid,VQ,<-b];exact C k I j D
theorem Je_ {w:QV} {F:Nat->Prop} {cs:Nat->Array XJ} {T:List e_} {S:XJ} (h:oc_ F w cs T S):∃A cap,S = QQ A T.length cap:=by obtain⟨_,A,cap,e,_,_⟩:=h;exact⟨A,cap,e⟩
theorem na_ (t:e_) (ss:Nat->XJ) (W:QV):(Instr.build 41 #[(0,.agg (c_ (t.get 0) (ss 0))),(1,.agg (c_ (t.get 1) (ss 1))),(2,.agg (c_ (t.get 2) (ss 2)))]).run QW W = .ok (.agg (N_ t ss)) W:=by kernel_rfl
def Fo_ (T:List e_) (w:QV) (e:Ending) (w':QV):Prop:=∃v,e = YQ v/\x_ 41 18 TrS w' (λb=>w.heap.size<=b/\b<w'.heap.size) T v/\XW w.heap.size w w'
structure t5_ (w:QV) (T:List e_) (S:XJ) (wx:QV):Prop where
 hb:XW w.heap.size w wx
 own:x_ 41 18 TrS wx (λb=>w.heap.size<=b/\b<wx.heap.size) T S
theorem t5_.on {w wx w':QV} {T:List e_} {S:XJ} (h:t5_ w T S wx) (hb:XW wx.heap.size wx w'):t5_ w T S w':=
 ⟨h.hb.trans (hb.mono h.hb.size),(h.own.turn TrS.good (Turn.of_below hb) (λb hb=>hb.2) (λb hb=>λe=>by have e:wx.heap.size<=b:=e;have:=hb.2;omega)).mono TrS.good λb h1=>⟨h1.1,XZ h1.2 hb.size⟩⟩
theorem t5_.more {w wr w':QV} {g cap n:Nat} {S:XJ} {T:List e_} {t:e_} (h:t5_ w T S wr) (f:wr.grownBy w' S.ownBlock) (z:S.ownBlock=QJ g\/wr.heap.size<=g) (r:g<w'.heap.size)
    (B:x_ 41 18 TrS w' (λb=>(w.heap.size<=b/\b<wr.heap.size)\/b=g) (T++[t]) (QQ (QJ ⟨g,0,QK⟩) n cap)):t5_ w (T++[t]) (QQ (QJ ⟨g,0,QK⟩) n cap) w':=by
 have e:∀b,S.ownBlock=QJ b->w.heap.size<=b/\b<wr.heap.size:=λb hb=>by
  obtain⟨_,_,_,x,_⟩:=h.own;exact x b hb
 refine⟨h_ h.hb (Turn.of_grown f) (λb hb=>(e b hb.symm).1),B.mono TrS.good λb hb=>?_⟩;rcases hb with hb | rfl
 ·exact⟨hb.1,XZ hb.2 f.size⟩
 ·refine⟨?_,r⟩;rcases z with h1 | h1
  ·exact (e _ h1).1
  ·exact ZX h.hb.size h1
theorem Kh_ {F:Nat->Prop} {w:QV} {c:Nat} {T:List e_} (h:i8_ F w c T) (hF:∀b,F b->b<w.heap.size) :
    Calls QW 17 #[YK (QJ ⟨c,0,QK⟩)] w (Fo_ T w):=by
 obtain⟨S,ss,cs,h1,h2,_⟩:=h.cells;obtain⟨A,cp,rfl⟩:=Je_ h2;have HR:=q_ (λ(W:QV) (hb:XW w.heap.size w W)=>h2.keep (w':=W) λp hp=>hb.cell (hF _ hp));have HS:=q_ h.scal;have ab:=q_ h.fit;obtain⟨n,M⟩:=a_ T.length;have HN:=q_ (show n<=65536 from by rw[<-M.o];exact h.len);rw[M.o]at HR h1;have c0:w.cell? ⟨c,0,QK⟩=QJ (QQ A n cp):=QX h1 0;have ae:=q_ (show t5_ w [] (QQ QK 0 0) w from ⟨XV _ _,x_.nil ..⟩);clear h h1 h2 hF;go_enter func17,ntmps17
 go_wp2_with fail;go_loopw [3,11] (λs3 ao wx=>∃(k:Nat) (S:XJ),k<=n/\ao = QY QU (k:Nat)/\S=s3/\Q_ (t5_ w (T.take k) S wx)) (λ_ s _=>n-(intOf s).toNat)
 case atStart=>exact⟨0,_,by omega,rfl,rfl,q_ ae.o⟩
 case round=>
  obtain⟨k,S,hk,rfl,rfl,O⟩:=hrel;by_cases am:k<n
  ·obtain⟨t,ht⟩:∃t,T[k]?=QJ t:=⟨_,XQ (by rw[M.o];exact am)⟩;have HT:=q_ ht;obtain⟨ad,ss,rfl,_,f,hq⟩:=Ay_ (HR.o wr O.o.hb) ht;have a0:=q_ (λ(w:QV) (F:Nat->Prop)=>(show TrS w F t (N_ t ss) from ⟨HS.o t (YZ ht),ab.o t (YZ ht),ss,f,rfl⟩));have J:=q_ (na_ t ss);have z:=Jv_ (t:=t) f;obtain⟨A0,q0,e0⟩:=f 0 (by omega);obtain⟨A1,q1,e1⟩:=f 1 (by omega);obtain⟨A2,q2,e2⟩:=f 2 (by omega);clear ht f;obtain⟨r,e⟩:=ba_ t ss;rw[e.o]at hq z a0 J;obtain⟨U,B⟩:=L_ (t.get 0) (ss 0);obtain⟨V,C⟩:=L_ (t.get 1) (ss 1);obtain⟨X,D⟩:=L_ (t.get 2) (ss 2);rw[B.o,C.o,D.o]at J;have HQ:=q_ hq;have a9:=q_ z;have Z1:=q_ e.size;have Q1:=q_ (e8_.trans (congrArg QJ e.size.symm));have QP:=q_ (show (Tryz.prog.info? 99).map (·.size)=QJ r.size from by rw[Z1.o];kernel_rfl);have af:=q_ (a2_.trans (congrArg QJ B.size.symm));have ag:=q_ (a2_.trans (congrArg QJ C.size.symm));have ah:=q_ (a2_.trans (congrArg QJ D.size.symm));clear hq z e0 e1 e2;have a1:(0:Int)<=k:=by omega
   have a2:(k:Int)<n:=by omega
   have w1:IntKind.i64.wrap ((k:Int)+1)=(k:Int)+1:=YU _ (by have:=HN.o;omega);obtain⟨x,I⟩:=a_ wr.heap.size;have Y:=q_ (show (wr.alloc (XX #[QY QU 0,XY false,QY QU 0,QZ ⟨#[]⟩,QZ ⟨#[]⟩,QQ QK 0 0,QY QU 0,XY false,QY QU 0,QZ ⟨#[]⟩,QZ ⟨#[]⟩,QQ QK 0 0,QY QU 0,XY false,QY QU 0,QZ ⟨#[]⟩,QZ ⟨#[]⟩,QQ QK 0 0] 99)).heap[x]?=QJ (XX #[QY QU 0,XY false,QY QU 0,QZ ⟨#[]⟩,QZ ⟨#[]⟩,QQ QK 0 0,QY QU 0,XY false,QY QU 0,QZ ⟨#[]⟩,QZ ⟨#[]⟩,QQ QK 0 0,QY QU 0,XY false,QY QU 0,QZ ⟨#[]⟩,QZ ⟨#[]⟩,QQ QK 0 0] 99 (0,0)) from by rw[<-I.o];exact XU wr _)
   go_upto_region 5 with (first
    | ((with_reducible refine d_ (some 14) ?_);refine u9_ rfl 99 _ rfl rfl r _ HQ.o underlying99 rfl QP.o ?_)
    | ((with_reducible refine w_ 5 ?_);refine o_ rfl 99 _ _ rfl x (#[QY QU 0,XY false,QY QU 0,QZ ⟨#[]⟩,QZ ⟨#[]⟩,QQ QK 0 0,QY QU 0,XY false,QY QU 0,QZ ⟨#[]⟩,QZ ⟨#[]⟩,QQ QK 0 0,QY QU 0,XY false,QY QU 0,QZ ⟨#[]⟩,QZ ⟨#[]⟩,QQ QK 0 0]) r 99 (by rw[<-I.o];rfl) rfl Y.o Z1.o QP.o a9.o ?_;intro w5 a7 a6))
   rw[I.o];have aa:=q_ (show XW wr.heap.size wr w5 from jb_ (by rw[I.o];exact a6));have L:=q_ a7;clear a7 a6 HQ Y;have Z:=q_ (O.o.on aa.o);have ai:=q_ (λi (hi:i<U.size)=>(show w5.cell? ((⟨x,0,QK⟩:Addr).add i)=U[i]? from by rw[Addr.add_mid,UU w5 x (0+i) r _ _ L.o,<-B.o,<-e.o];exact u_ t ss 0 (by omega) i (by rwa [B.size]at hi)));have aj:=q_ (λi (hi:i<V.size)=>(show w5.cell? ((⟨x,6,QK⟩:Addr).add i)=V[i]? from by rw[Addr.add_mid,UU w5 x (6+i) r _ _ L.o,<-C.o,<-e.o];exact u_ t ss 1 (by omega) i (by rwa [C.size]at hi)));have ak:=q_ (λi (hi:i<X.size)=>(show w5.cell? ((⟨x,12,QK⟩:Addr).add i)=X[i]? from by rw[Addr.add_mid,UU w5 x (12+i) r _ _ L.o,<-D.o,<-e.o];exact u_ t ss 2 (by omega) i (by rwa [D.size]at hi)))
   go_wp2_with (first
    | ((with_reducible refine d_ (some 17) ?_);refine C_ (by rfl) 39 _ rfl rfl U _ ai.o YV rfl af.o ?_)
    | ((with_reducible refine d_ (some 19) ?_);refine C_ (by rfl) 39 _ rfl rfl V _ aj.o YV rfl ag.o ?_)
    | ((with_reducible refine d_ (some 21) ?_);refine C_ (by rfl) 39 _ rfl rfl X _ ak.o YV rfl ah.o ?_)
    | ((with_reducible refine d_ (some 22) ?_);refine W_ rfl 41 _ rfl #[(0,.agg U),(1,.agg V),(2,.agg X)] (by kernel_rfl) (.agg r) (J.o _) ?_)
    | ((with_reducible refine d_ (some 23) ?_);refine ul_ rfl 22 1 _ rfl #[(0,.agg r)] (by kernel_rfl) (QQ (QJ ⟨w5.heap.size,0,QK⟩) 1 1) _ (jc_ r Z1.o w5) ?_)
    | ((with_reducible refine d_ (some 24) ?_);refine wpList_plain rfl λK hK=>?_;refine J2_ (.tmp 15) (.tmp 23) rfl rfl Z.o.own (show (T.take k).length=k from by rw[UJ,M.o];omega) rfl a0.o (by have:=HN.o;omega) (λb hb=>hb.2) (λg7 c7 w7 a5 a3 a4 a8=>hK _ _ ?_);clear hK K))
   have ac:=q_ (Z.o.more a3 a4 a8 a5);clear a5 a3 a4 a8;go_wp2_with fail;go_roundw
   case rel=>exact⟨k+1,_,by omega,by go_num,rfl,q_ (by rw[f_ HT.o];exact ac.o)⟩
   case measure=>simp[intOf];omega
  ·have a2:¬(k:Int)<n:=by omega
   have HE:=q_ (show Fo_ T w (YQ S) wr from ⟨S,rfl,by have:=O.o.own;rwa [YJ (by rw[M.o];omega)]at this,O.o.hb⟩);go_wp2_with fail;go_ret;exact HE.o
theorem fm_ {a b:g_}:cv_ a b=true↔a=b:=by
 constructor
 ·intro h;by_cases e:a=b
  ·exact e
  ·rw[cw_ e]at h;cases h
 ·rintro rfl;exact kx_ _
noncomputable def tk_ (a b:e_):Bool:=cv_ (a.get 0) (b.get 0)&&(cv_ (a.get 1) (b.get 1)&&cv_ (a.get 2) (b.get 2))
theorem ym_ {a b:e_}:tk_ a b=true↔a=b:=by
 unfold tk_;rw[YW,YW,fm_,fm_,fm_];constructor
 ·rintro⟨h0,h1,h2⟩;exact y1_ (w:=aa_ 0) (eb_ 0) h0 h1 h2
 ·rintro rfl;exact⟨rfl,rfl,rfl⟩
theorem A4_ (a:e_):tk_ a a=true:=ym_.2 rfl
def v0_ (t:e_):Prop:=∀n,t9_ (t.get n)
theorem lu_ {t:e_} (h:cj_ t) (b:∀n,cg_ (t.get n)):v0_ t:=λn=>⟨g8_ (h.get n),b n,by have:=(h.get n).2.1;omega⟩
structure dx_ (c:Array XJ) (t:e_):Prop where
 key:v0_ t
 ex:∃ss:Nat->XJ,(∀i,i<3->∃A cap,ss i = QQ A 0 cap)/\c=N_ t ss
theorem TrS.cellT {w:QV} {F:Nat->Prop} {t:e_} {c:Array XJ} (h:TrS w F t c):dx_ c t:=by obtain⟨h1,h2,ss,b,e⟩:=h;exact⟨lu_ h1 h2,ss,b,e⟩
theorem dx_.size {c:Array XJ} {t:e_} (h:dx_ c t):c.size=18:=by obtain⟨_,ss,_,rfl⟩:=h;rfl
theorem Ha_ {a b:e_} {sa sb:Nat->XJ} {F G:Nat->Prop} (a0:∀n,n<3->V_ (a.get n).list<=999999999) (w:QV) (I:∀g,F g->g<w.heap.size) (J:∀g,G g->g<w.heap.size)
    (h1:∀n,n<3->VRd w F (a.get n) (.agg (c_ (a.get n) (sa n)))) (h2:∀n,n<3->VRd w G (b.get n) (.agg (c_ (b.get n) (sb n)))) :
    Calls QW 23 #[.agg (N_ a sa),.agg (N_ b sb)] w (n_ (tk_ a b) w):=by
 obtain⟨ca,L⟩:=ba_ a sa;obtain⟨cb,M⟩:=ba_ b sb;rw[L.o,M.o];obtain⟨z,Hz⟩:=a_ w.heap.size;obtain⟨w2,D⟩:=a_ ((w.alloc (XX ca 41)).alloc (XX cb 41));have a4:=q_ (show XW w.heap.size w w2 from by rw[<-D.o];exact F_ w _ _);have B:=q_ (show w2.heap[z]?=QJ (XX ca 41 (0,0)) from by rw[<-D.o,<-Hz.o];exact heap_alloc2_old w _ _);have C:=q_ (show w2.heap[z+1]?=QJ (XX cb 41 (0,0)) from by rw[<-D.o,<-Hz.o];exact heap_alloc2_new w _ _);have f:=q_ (show ∀W,XW w2.heap.size w2 W->XW w.heap.size w W from λW hb=>a4.o.trans (hb.mono a4.o.size));obtain⟨u0,O⟩:=L_ (a.get 0) (sa 0);obtain⟨v0,X⟩:=L_ (b.get 0) (sb 0);have ac:=q_ (a2_.trans (congrArg QJ O.size.symm));have af:=q_ (a2_.trans (congrArg QJ X.size.symm));have ai:=q_ (λ(W:QV) (hb:XW w2.heap.size w2 W) i (hi:i<u0.size)=>(show W.cell? ((⟨z,0,QK⟩:Addr).add i)=u0[i]? from by rw[Addr.add_mid,UU W z (0+i) ca _ _ ((hb.block z (b_ B.o)).trans B.o),<-O.o,<-L.o];exact u_ a sa 0 (by omega) i (by rwa [O.size]at hi)));have am:=q_ (λ(W:QV) (hb:XW w2.heap.size w2 W) i (hi:i<v0.size)=>(show W.cell? ((⟨z+1,0,QK⟩:Addr).add i)=v0[i]? from by rw[Addr.add_mid,UU W (z+1) (0+i) cb _ _ ((hb.block (z+1) (b_ C.o)).trans C.o),<-X.o,<-M.o];exact u_ b sb 0 (by omega) i (by rwa [X.size]at hi)));have a1:=λ(W:QV) (hb:XW w.heap.size w W)=>jq_ (a.get 0) (b.get 0) (a0 0 (by omega)) F G _ _ W (λg h=>XZ (I g h) hb.size) (λg h=>XZ (J g h) hb.size) ((h1 0 (by omega)).under hb I) ((h2 0 (by omega)).under hb J);rw[O.o,X.o]at a1;have a5:=q_ a1;clear a1;obtain⟨t0,a9⟩:=a_ (cv_ (a.get 0) (b.get 0));rw[a9.o]at a5;obtain⟨u1,U⟩:=L_ (a.get 1) (sa 1);obtain⟨v1,Y⟩:=L_ (b.get 1) (sb 1);have ad:=q_ (a2_.trans (congrArg QJ U.size.symm));have ag:=q_ (a2_.trans (congrArg QJ Y.size.symm));have aj:=q_ (λ(W:QV) (hb:XW w2.heap.size w2 W) i (hi:i<u1.size)=>(show W.cell? ((⟨z,6,QK⟩:Addr).add i)=u1[i]? from by rw[Addr.add_mid,UU W z (6+i) ca _ _ ((hb.block z (b_ B.o)).trans B.o),<-U.o,<-L.o];exact u_ a sa 1 (by omega) i (by rwa [U.size]at hi)));have ao:=q_ (λ(W:QV) (hb:XW w2.heap.size w2 W) i (hi:i<v1.size)=>(show W.cell? ((⟨z+1,6,QK⟩:Addr).add i)=v1[i]? from by rw[Addr.add_mid,UU W (z+1) (6+i) cb _ _ ((hb.block (z+1) (b_ C.o)).trans C.o),<-Y.o,<-M.o];exact u_ b sb 1 (by omega) i (by rwa [Y.size]at hi)));have a2:=λ(W:QV) (hb:XW w.heap.size w W)=>jq_ (a.get 1) (b.get 1) (a0 1 (by omega)) F G _ _ W (λg h=>XZ (I g h) hb.size) (λg h=>XZ (J g h) hb.size) ((h1 1 (by omega)).under hb I) ((h2 1 (by omega)).under hb J);rw[U.o,Y.o]at a2;have a6:=q_ a2;clear a2;obtain⟨t1,aa⟩:=a_ (cv_ (a.get 1) (b.get 1));rw[aa.o]at a6;obtain⟨u2,V⟩:=L_ (a.get 2) (sa 2);obtain⟨v2,Z⟩:=L_ (b.get 2) (sb 2);have ae:=q_ (a2_.trans (congrArg QJ V.size.symm));have ah:=q_ (a2_.trans (congrArg QJ Z.size.symm));have ak:=q_ (λ(W:QV) (hb:XW w2.heap.size w2 W) i (hi:i<u2.size)=>(show W.cell? ((⟨z,12,QK⟩:Addr).add i)=u2[i]? from by rw[Addr.add_mid,UU W z (12+i) ca _ _ ((hb.block z (b_ B.o)).trans B.o),<-V.o,<-L.o];exact u_ a sa 2 (by omega) i (by rwa [V.size]at hi)));have ap:=q_ (λ(W:QV) (hb:XW w2.heap.size w2 W) i (hi:i<v2.size)=>(show W.cell? ((⟨z+1,12,QK⟩:Addr).add i)=v2[i]? from by rw[Addr.add_mid,UU W (z+1) (12+i) cb _ _ ((hb.block (z+1) (b_ C.o)).trans C.o),<-Z.o,<-M.o];exact u_ b sb 2 (by omega) i (by rwa [Z.size]at hi)));have a3:=λ(W:QV) (hb:XW w.heap.size w W)=>jq_ (a.get 2) (b.get 2) (a0 2 (by omega)) F G _ _ W (λg h=>XZ (I g h) hb.size) (λg h=>XZ (J g h) hb.size) ((h1 2 (by omega)).under hb I) ((h2 2 (by omega)).under hb J);rw[V.o,Z.o]at a3;have a7:=q_ a3;clear a3;obtain⟨t2,ab⟩:=a_ (cv_ (a.get 2) (b.get 2));rw[ab.o]at a7;unfold tk_;rw[a9.o,aa.o,ab.o];clear h1 h2 a0 I J;go_enter func23,ntmps23
 go_upto_region 1 with fail;rw[D.o,Hz.o];clear D
 go_wp2_with (first
  | ((with_reducible refine d_ (some 6) ?_);refine C_ (by rfl) 39 _ rfl rfl u0 _ (ai.o w2 (XV _ _)) YV rfl ac.o ?_)
  | ((with_reducible refine d_ (some 8) ?_);refine C_ (by rfl) 39 _ rfl rfl v0 _ (am.o w2 (XV _ _)) YV rfl af.o ?_))
 refine (a5.o _ (f.o _ (XV _ _))).mono ?_;unfold n_;rintro e x0 ⟨rfl,hb⟩;have r:=q_ (show XW w2.heap.size w2 x0 from hb);clear hb
 cases t0 with
 | false=>
  go_wp2_with fail;go_ret;exact⟨rfl,f.o _ r.o⟩
 | true=>
  go_wp2_with (first
   | ((with_reducible refine d_ (some 12) ?_);refine C_ (by rfl) 39 _ rfl rfl u1 _ (aj.o x0 r.o) YV rfl ad.o ?_)
   | ((with_reducible refine d_ (some 14) ?_);refine C_ (by rfl) 39 _ rfl rfl v1 _ (ao.o x0 r.o) YV rfl ag.o ?_))
  refine (a6.o _ (f.o _ r.o)).mono ?_;unfold n_;rintro e x1 ⟨rfl,hb⟩;have x:=q_ (show XW w2.heap.size w2 x1 from r.o.trans (hb.mono r.o.size));clear hb
  cases t1 with
  | false=>
   go_wp2_with fail;go_ret;exact⟨rfl,f.o _ x.o⟩
  | true=>
   go_wp2_with (first
    | ((with_reducible refine d_ (some 19) ?_);refine C_ (by rfl) 39 _ rfl rfl u2 _ (ak.o x1 x.o) YV rfl ae.o ?_)
    | ((with_reducible refine d_ (some 21) ?_);refine C_ (by rfl) 39 _ rfl rfl v2 _ (ap.o x1 x.o) YV rfl ah.o ?_))
   refine (a7.o _ (f.o _ x.o)).mono ?_;unfold n_;rintro e x2 ⟨rfl,hb⟩;have a8:=q_ (show XW w2.heap.size w2 x2 from x.o.trans (hb.mono x.o.size));clear hb
   cases t2 with
   | false=>
    go_wp2_with fail;go_ret;exact⟨rfl,f.o _ a8.o⟩
   | true=>
    go_wp2_with fail;go_ret;exact⟨rfl,f.o _ a8.o⟩
def e5_ (f:Nat->Bool) (n:Nat):List XJ:=(List.range n).map λk=>.bool (f k)
theorem g0_ (f:Nat->Bool) {n k:Nat} (h:k<n):(e5_ f n)[k]?=QJ (XY (f k)):=by unfold e5_;rw[List.getElem?_map,List.getElem?_range h];rfl
theorem zn_ (f:Nat->Bool) {n k:Nat} (b:Bool):(e5_ f n).set k (XY b)=e5_ (λi=>if i=k then b else f i) n:=by
 refine List.ext_getElem? λi=>?_;by_cases hi:i<n
 ·rw[g0_ _ hi,List.getElem?_set];by_cases e:k=i
  ·subst e;rw[iP_ rfl,iP_ (by unfold e5_;simpa using hi),iP_ rfl]
  ·rw[iN_ e,g0_ _ hi,iN_ (λh=>e h.symm)]
 ·rw[ZK (by unfold e5_;simp;omega),ZK (by unfold e5_;simp;omega)]
theorem uk_ {f g:Nat->Bool} {n:Nat} (h:∀i,i<n->f i=g i):e5_ f n=e5_ g n:=by
 refine List.ext_getElem? λi=>?_;by_cases hi:i<n
 ·rw[g0_ _ hi,g0_ _ hi,h i hi]
 ·rw[ZK (by unfold e5_;simp;omega),ZK (by unfold e5_;simp;omega)]
structure OnM (w:QV) (g n:Nat) (f:Nat->Bool) (wx:QV):Prop where
 hb:XW w.heap.size w wx
 g0:w.heap.size<=g
 row:wx.ownsRow 0 4 1 (QQ (QJ ⟨g,0,QK⟩) n n) n (e5_ f n)
theorem OnM.on {w wx w':QV} {g n:Nat} {f:Nat->Bool} (h:OnM w g n f wx) (hb:XW wx.heap.size wx w'):OnM w g n f w':=
 ⟨h.hb.trans (hb.mono h.hb.size),h.g0,(Turn.of_below hb).owns h.row (λb r e=>by have e:wx.heap.size<=b:=e;obtain⟨z,x⟩:=ey_ h.row r;have:=b_ x;omega)⟩
theorem OnM.drew {w wx:QV} {g n:Nat} {f:Nat->Bool} (h:OnM w g n f wx):OnM w g n f wx.drew:=h.on (XV _ _).drew
theorem OnM.at_ {w wx:QV} {g n k:Nat} {f:Nat->Bool} (h:OnM w g n f wx) (b:k<n):wx.cell? ⟨g,k,QK⟩=QJ (XY (f k)):=by rw[h.row.cellAt k (by omega)];exact g0_ f b
theorem OnM.set {w wx:QV} {g n k:Nat} {f r:Nat->Bool} (h:OnM w g n f wx) (b:Bool) (x:∀i,i<n->r i=if i=k then b else f i):OnM w g n r (wx.setCell ⟨g,k,QK⟩ (XY b)):=by obtain⟨h1,h2⟩:=h.row.stored k (XY b);rw[zn_]at h1;refine⟨h_ h.hb (Turn.of_grown h2) (λq e=>?_),h.g0,by rw[uk_ x];exact h1⟩;injection e with e;rw[e];exact h.g0
structure AtM (w:QV) (c8:Array XJ) (m:List Nat) (S:XJ) (wx:QV):Prop where
 hb:XW w.heap.size w wx
 box:wx.heap[w.heap.size+1]?=QJ (XX c8 99 (0,0))
 row:eq_ w.heap.size S m wx
theorem AtM.on {w wx w':QV} {f:Array XJ} {m:List Nat} {S:XJ} (h:AtM w f m S wx) (hb:XW wx.heap.size wx w'):AtM w f m S w':=
 ⟨h.hb.trans (hb.mono h.hb.size),(hb.block _ (b_ h.box)).trans h.box,h.row.turn (Turn.of_below hb) λb r e=>by have:=(h.row.blk b r).2;have e:wx.heap.size<=b:=e;omega⟩
theorem AtM.more {w wr w':QV} {f:Array XJ} {m:List Nat} {S:XJ} {g cap k n:Nat} (h:AtM w f m S wr) (B:m.length=n) (x:wr.grownBy w' S.ownBlock) (z:S.ownBlock=QJ g\/wr.heap.size<=g) (r:g<w'.heap.size)
    (C:w'.ownsRow 0 3 1 (QQ (QJ ⟨g,0,QK⟩) (n+1) cap) (n+1) (ixC (m++[k]))):AtM w f (m++[k]) (QQ (QJ ⟨g,0,QK⟩) (n+1) cap) w':=by
 have ht:=Turn.of_grown x;refine⟨h_ h.hb ht (λb hb=>by have:=(h.row.blk b hb.symm).1;omega),ht.heap h.box (λe=>cm_ h.row.row h.box (by decide) e.symm),⟨?_,λb hb=>?_⟩⟩
 ·rw[ZZ,B];exact C
 ·have hb:some g=some b:=hb;injection hb with hb;subst hb;refine⟨?_,r⟩;rcases z with h1 | h1
  ·exact (h.row.blk _ h1).1
  ·have:=b_ h.box;omega
structure Co_ (w:QV) (m:List Nat) (S6:XJ) (L:List e_) (S:XJ) (wx:QV):Prop where
 all:t5_ w L S wx
 row:eq_ w.heap.size S6 m wx
theorem Co_.on {w wx w':QV} {m:List Nat} {f S:XJ} {L:List e_} (h:Co_ w m f L S wx) (hb:XW wx.heap.size wx w'):Co_ w m f L S w':=
 ⟨h.all.on hb,h.row.turn (Turn.of_below hb) λb r e=>by have:=(h.row.blk b r).2;have e:wx.heap.size<=b:=e;omega⟩
theorem Co_.more {w wr w':QV} {m:List Nat} {r S:XJ} {L:List e_} {g cap n:Nat} {t:e_} (h:Co_ w m r L S wr) (x:wr.grownBy w' S.ownBlock) (B:S.ownBlock=QJ g\/wr.heap.size<=g) (z:g<w'.heap.size)
    (C:x_ 41 18 TrS w' (λb=>(w.heap.size<=b/\b<wr.heap.size)\/b=g) (L++[t]) (QQ (QJ ⟨g,0,QK⟩) n cap)):Co_ w m r (L++[t]) (QQ (QJ ⟨g,0,QK⟩) n cap) w':=by
 refine⟨h.all.more x B z C,h.row.turn (Turn.of_grown x) λb hb e=>?_⟩;obtain⟨cs,f,_⟩:=h.all.own;exact jn_ f h.row.row (by decide) b hb e.symm
structure RfM (w:QV) (z:Nat) (c1 c2:Array XJ) (wx:QV):Prop where
 hb:XW w.heap.size w wx
 hp:wx.heap[z+2]?=QJ (XX c2 39 (0,0))
 ht:wx.heap[z+3]?=QJ (XX c1 39 (0,0))
theorem RfM.on {w wx w':QV} {z:Nat} {b e:Array XJ} (h:RfM w z b e wx) (hb:XW wx.heap.size wx w'):RfM w z b e w':=
 ⟨h.hb.trans (hb.mono h.hb.size),(hb.block _ (b_ h.hp)).trans h.hp,(hb.block _ (b_ h.ht)).trans h.ht⟩
theorem RfM.drew {w wx:QV} {z:Nat} {b e:Array XJ} (h:RfM w z b e wx):RfM w z b e wx.drew:=h.on (XV _ _).drew
theorem hl_ (ad:Addr) (n cap a:Nat) (f:a<n) (w:QV):(Instr.indexAt 22 (QQ (QJ ad) n cap) (QY QU (a:Nat))).run QW w = .ok (YK (QJ (ad.add (a*18)))) w:=by
 have b:(0:Int)<=a:=by omega
 have e:(a:Int)<n:=by omega
 go_simp
theorem TrS.cells {w:QV} {F:Nat->Prop} {L:List e_} {A:Option Addr} {n:Nat} (h:SRd 18 TrS w F L A n) {k:Nat} {t:e_} (ht:L[k]?=QJ t) :
    ∃ad c,A=QJ ad/\F ad.block/\dx_ c t/\∀j,j<c.size->w.cell? ((ad.add (k*18)).add j)=c[j]?:=by
 obtain⟨ad,c,e,b,z,f,r⟩:=h.at_ ht;exact⟨ad,c,e,b,r.cellT,λj x=>by rw[add_of_add];exact f j (by omega)⟩
section
variable {K T:List e_} {i k:Nat} {t u:e_}
end
section
variable {P:Program} {T E:TypeId} {sz:Nat}
theorem mj_ (b:P.underlying T=QJ (.slice (P.elem T))) (f:∀W,(sizeOf (P.elem T)).run P W = .ok sz W) {A:Option Addr} {n c k:Nat} (r:k<=n) (x:n<=c) (e:A=QK->c=0) :
    ∃A' c',(∀W,(Instr.sliceAt T (QQ A n c) QK (QJ (QY QU (k:Nat))) QK).run P W = .ok (QQ A' k c') W)/\(A'=QK->c'=0)/\(0<k->A'=A.map (·.add (0*sz))):=by
 refine⟨if c=0 then A else A.map (·.add (0*sz)),c-0,λW=>?_,λh=>?_,λh=>?_⟩
 ·rw[run_sliceAt_slice (h:=b),run_slice_h (ht:=b) (h0:=by omega) (h2:=by omega),f W];rfl
 ·by_cases h0:c=0
  ·omega
  ·rw[iN_ h0,Option.map_eq_none_iff]at h;have:=e h;omega
 ·rw[iN_ (by omega)]
theorem h1_ (b:P.underlying T=QJ (.slice (P.elem T))) (f:∀W,(sizeOf (P.elem T)).run P W = .ok sz W) {A:Option Addr} {n c k:Nat} (r:k<=n) (x:n<=c) (e:A=QK->c=0) :
    ∃A' c',(∀W,(Instr.sliceAt T (QQ A n c) (QJ (QY QU (k:Nat))) QK QK).run P W = .ok (QQ A' (n-k) c') W)/\(A'=QK->c'=0)/\(k<n->A'=A.map (·.add (k*sz))):=by
 refine⟨if c=k then A else A.map (·.add (k*sz)),c-k,λW=>?_,λh=>?_,λh=>?_⟩
 ·rw[run_sliceAt_slice (h:=b),run_slice_l (ht:=b) (h0:=by omega) (h1:=by omega),f W];rfl
 ·by_cases h0:c=k
  ·omega
  ·rw[iN_ h0,Option.map_eq_none_iff]at h;have:=e h;omega
 ·rw[iN_ (by omega)]
end
section
variable {α : Type} {E:TypeId} {sz:Nat} {R:α -> Array XJ->Prop} {w wx w':QV} {S v v':XJ} {l nx:List α}
theorem SRd.at_len {F:Nat->Prop} {A A':Option Addr} {n:Nat} (h:SRd sz (ofP R) w F l A n) (f:0<n->A'=A):SRd sz (ofP R) w F l A' n:=⟨h.1,λb=>by
 obtain⟨ad,e,h1,h2⟩:=h.2 b;exact⟨ad,by rw[f b,e],h1,h2⟩⟩
theorem SRd.part_to {F:Nat->Prop} {A A':Option Addr} {n k:Nat} (h:SRd sz (ofP R) w F l A n) (e:k<=n) (b:0<k->A'=A.map (·.add (0*sz))):SRd sz (ofP R) w F (l.take k) A' k:=by have:=(h.part (lo:=0) (hi:=k) (Nat.zero_le _) e).at_len (A':=A') (λh=>b (by omega));rwa [List.drop_zero,Nat.sub_zero]at this
theorem SRd.part_from {F:Nat->Prop} {A A':Option Addr} {n k:Nat} (h:SRd sz (ofP R) w F l A n) (e:k<=n) (b:k<n->A'=A.map (·.add (k*sz))):SRd sz (ofP R) w F (l.drop k) A' (n-k):=by have:=(h.part (lo:=k) (hi:=n) e (XK _)).at_len (A':=A') (λh=>b (by omega));rwa [YJ (by rw[List.length_drop,h.1];exact XK _)]at this
theorem c0_.cell {E:TypeId} (r:e1_ sz R) {A:Option Addr} {n cap:Nat} (h:c0_ E sz R w l (QQ A n cap)) (B:l.length=n) {k:Nat} {x:α} (D:l[k]?=QJ x) :
    ∃ad c,A=QJ ad/\ad.block<w.heap.size/\R x c/\∀j,j<c.size->w.cell? ((ad.add (k*sz)).add j)=c[j]?:=by
 obtain⟨ad,c,e,f,J,z,C⟩:=(h.rd r (F:=λb=>b<w.heap.size) (λb hb=>h.lt hb) B).at_ D;exact⟨ad,c,e,f,C,λj I=>by rw[add_of_add];exact z j (by omega)⟩
structure LdP (E:TypeId) (sz:Nat) (R:α -> Array XJ->Prop) (w:QV) (l:List α) (S:XJ) (wx:QV):Prop where
 hb:XW w.heap.size w wx
 own:c0_ E sz R wx l S
 ow:∀b,S.ownBlock=QJ b->w.heap.size<=b
theorem LdP.on (h:LdP E sz R w l S wx) (hb:XW wx.heap.size wx w'):LdP E sz R w l S w':=⟨h.hb.trans (hb.mono h.hb.size),h.own.on hb,h.ow⟩
theorem LdP.drew (h:LdP E sz R w l S wx):LdP E sz R w l S wx.drew:=h.on (XV _ _).drew
theorem LdP.start (w:QV):LdP E sz R w [] (QQ none 0 0) w:=⟨XV _ _,c0_.nil ..,λb h=>by cases h⟩
theorem LdP.startOn {w0:QV} (hb:XW w0.heap.size w0 w):LdP E sz R w0 [] (QQ none 0 0) w:=⟨hb,c0_.nil ..,λb h=>by cases h⟩
structure InP (E:TypeId) (sz:Nat) (R:α -> Array XJ->Prop) (w:QV) (l:List α) (S:XJ) (nx:List α) (v:XJ) (wx:QV):Prop where
 l:LdP E sz R w l S wx
 n:LdP E sz R w nx v wx
 ne:∀b,v.ownBlock=QJ b->S.ownBlock≠QJ b
theorem InP.start (h:LdP E sz R w l S wx):InP E sz R w l S [] (QQ none 0 0) wx:=⟨h,⟨h.hb,c0_.nil ..,λb h=>by cases h⟩,λb h=>by cases h⟩
theorem InP.on (h:InP E sz R w l S nx v wx) (hb:XW wx.heap.size wx w'):InP E sz R w l S nx v w':=⟨h.l.on hb,h.n.on hb,h.ne⟩
theorem InP.app {l2:List α} (h:InP E sz R w l S nx v wx) (x:c0_ E sz R w' (nx++l2) v') (r:wx.grownBy w' v.ownBlock) (f:v'.ownBlock=v.ownBlock\/v'.ownBlock=QJ wx.heap.size):InP E sz R w l S (nx++l2) v' w':=by
 have ht:=Turn.of_grown r;have hb:XW w.heap.size w w':=nz_ h.l.hb ht (λb hb=>h.n.ow b hb.symm);refine⟨⟨hb,h.l.own.turn ht (λb h1 h2=>h.ne b h2.symm h1),h.l.ow⟩,⟨hb,x,λb hb=>?_⟩,λb hb=>?_⟩
 ·rcases f with e | e
  ·rw[e]at hb;exact h.n.ow b hb
  ·rw[e]at hb;injection hb with hb;rw[<-hb];exact h.l.hb.size
 ·rcases f with e | e
  ·rw[e]at hb;exact h.ne b hb
  ·rw[e]at hb;injection hb with hb;intro h2;have:=h.l.own.lt h2;omega
theorem InP.done (h:InP E sz R w l S nx v wx):LdP E sz R w nx v wx:=h.n
end
section
variable {α : Type} {o:α -> α -> Int} {l:List α} {y:α} {k:Nat}
theorem tr_ {x:α} (b:l[k]?=QJ x) (h:0<o x y):a3_ o y l (k+1)=a3_ o y l k:=by
 unfold a3_;rw[b];simp only;rw[iP_ h]
 cases k<;>rfl
theorem ts_ {x:α} (b:l[k]?=QJ x) (h:¬0<o x y):a3_ o y l (k+1)=k+1:=by unfold a3_;rw[b];simp only;rw[iN_ h]
theorem tt_:a3_ o y l 0=0:=by unfold a3_;rfl
theorem xf_ (h:a3_ o y l l.length=0):dj_ o l y=l.take 0++([y]++l.drop 0):=by unfold dj_;simp only[h];rw[iN_ (by rintro⟨h,_⟩;omega)];rfl
theorem xe_ {x:α} (e:l[k]?=QJ x) (h:a3_ o y l l.length=k+1) (h0:o x y≠0):dj_ o l y=l.take (k+1)++([y]++l.drop (k+1)):=by unfold dj_;simp only[h,Nat.add_sub_cancel];rw[iN_ (by rintro⟨_,f,b,h1⟩;rw[e]at b;injection b with b;subst b;exact h0 h1)];rfl
theorem xg_ {x:α} (b:l[k]?=QJ x) (h:a3_ o y l l.length=k+1) (h0:o x y=0):dj_ o l y=l:=by unfold dj_;simp only[h,Nat.add_sub_cancel];rw[iP_ ⟨by omega,x,b,h0⟩]
end
theorem T_:e1_ 18 (λ(t:e_) c=>dx_ c t):=⟨λh=>h.size,fun {x c} h u r=>by
 obtain⟨_,ss,f,rfl⟩:=h;exact ck_ x ss (λq b=>by obtain⟨A,cp,e⟩:=f q b;exact⟨A,0,cp,e⟩) u r⟩
structure gu_ (c:Array XJ) (v:g_):Prop where
 key:t9_ v
 ex:∃A cap,c=c_ v (QQ A 0 cap)
theorem ag_:e1_ 6 (λ(v:g_) c=>gu_ c v):=⟨λh=>by obtain⟨_,A,cap,rfl⟩:=h;rfl,fun {x c} h u b=>by
 obtain⟨_,A,cap,rfl⟩:=h;have:(c_ x (QQ A 0 cap)).all (·.oneCell')=true:=by kernel_rfl
 exact Array.all_eq_true_iff_forall_mem.1 this u (by simpa using b)⟩
theorem SRd.imp {α : Type} {R R':bu_ α} {sz:Nat} {w:QV} {F F':Nat->Prop} {l:List α} {A:Option Addr} {n:Nat} (h:SRd sz R w F l A n) (r:∀b,F b->F' b) (z:∀x c,R w F x c->R' w F' x c):SRd sz R' w F' l A n:=
 ⟨h.1,λD=>by
  obtain⟨ad,e,C,B⟩:=h.2 D;refine⟨ad,e,r _ C,λi x I=>?_⟩;obtain⟨c,h1,h2,f⟩:=B i x I;exact⟨c,h1,h2,z x c f⟩⟩
theorem dx_.trR {c:Array XJ} {t:e_} (h:dx_ c t) (w:QV) (F:Nat->Prop):TrR w F t c:=by obtain⟨b,ss,r,rfl⟩:=h;refine⟨ss,rfl,λn f=>?_⟩;obtain⟨A,cap,e⟩:=r n f;rw[e];exact vi_ w F (b n).list A cap
theorem TrR.cellT {c:Array XJ} {t:e_} {w:QV} {F:Nat->Prop} (h:TrR w F t c) (b:v0_ t):dx_ c t:=by obtain⟨ss,rfl,f⟩:=h;refine⟨b,ss,λi hi=>?_,rfl⟩;obtain⟨A,cap,e,_,_⟩:=(f i hi).inv;injection e with e;have:=congrArg (λa:Array XJ=>a[5]?) e;rw[(b i).list]at this;exact⟨A,cap,by simpa [c_] using this⟩
theorem jr_ (W:QV):(sizeOf (Tryz.prog.elem 22)).run QW W = .ok 18 W:=by kernel_rfl
theorem h0_ (W:QV):(sizeOf (Tryz.prog.elem 37)).run QW W = .ok 6 W:=by kernel_rfl
theorem vt_:Tryz.prog.underlying 22=QJ (.slice (Tryz.prog.elem 22)):=by kernel_rfl
theorem pc_:Tryz.prog.underlying 37=QJ (.slice (Tryz.prog.elem 37)):=by kernel_rfl
end
section
open Go
end
section
open Go Go.RowKit Go.Maps
noncomputable def hx_ (L M:List e_):Bool:=by classical exact decide (L=M)
theorem hy_ {L M:List e_}:hx_ L M=true↔L=M:=by unfold hx_;simp
theorem tl_ {L M:List e_} (h:L≠M):hx_ L M=false:=by
 cases e:hx_ L M with
 | false=>rfl
 | true=>exact absurd (hy_.1 e) h
theorem D0_ {L M:List e_} {n:Nat} (h1:L.length=n) (h2:M.length=n) (h:∀m,m<n->L[m]?=M[m]?):L=M:=List.ext_getElem? λm=>by
 by_cases b:m<n
 ·exact h m b
 ·rw[ZK (by omega),ZK (by omega)]
theorem wy_ {F G:Nat->Prop} {w:QV} {L M:List e_} {A B:Option Addr} {n m ca cb:Nat} (h1:SRd 18 TrR w F L A n) (h2:SRd 18 TrR w G M B m) (hF:∀b,F b->b<w.heap.size) (hG:∀b,G b->b<w.heap.size) (hn:n<=1000000000)
    (aa:∀t,t∈L->∀i,V_ (t.get i).list<=999999999):Calls QW 14 #[QQ A n ca,QQ B m cb] w (n_ (hx_ L M) w):=by
 have H1:=q_ h1;have H2:=q_ h2;have HF:=q_ hF;have HG:=q_ hG;have ae:=q_ aa;have L1:=q_ h1.1;have L2:=q_ h2.1;have HN:=q_ hn;clear h1 h2 hF hG aa;by_cases a7:n=m
 ·subst a7;obtain⟨r,Hr⟩:=a_ (hx_ L M);rw[Hr.o];go_enter func14,ntmps14
  go_wp2_with fail;go_loopw [5] (λs5 wx=>∃i:Nat,i<=n/\s5 = QY QU (i:Nat)/\Q_ (XW w.heap.size w wx/\∀m,m<i->L[m]?=M[m]?)) (λs5 _=>n-(intOf s5).toNat)
  case atStart=>exact⟨0,by omega,rfl,q_ ⟨XV _ _,λm hm=>absurd hm (by omega)⟩⟩
  case round=>
   obtain⟨i,hi,rfl,Y⟩:=hrel;by_cases U:i<n
   ·have a1:(0:Int)<=i:=by omega
    have a2:(i:Int)<n:=by omega
    have w1:IntKind.i64.wrap ((i:Int)+1)=(i:Int)+1:=YU _ (by omega);obtain⟨t,ht⟩:∃t,L[i]?=QJ t:=⟨_,XQ (by rw[<-L1.o];exact U)⟩;obtain⟨u,hu⟩:∃u,M[i]?=QJ u:=⟨_,XQ (by rw[<-L2.o];exact U)⟩;obtain⟨C,s1,rfl,a5,V,a8⟩:=TrR.cells H1.o ht;obtain⟨D,s2,rfl,a6,X,a9⟩:=TrR.cells H2.o hu;have HT:=q_ ht;have HU:=q_ hu;have z:=λ(W:QV) (hb:XW w.heap.size w W)=>Ha_ (a:=t) (b:=u) (sa:=s1) (sb:=s2) (F:=F) (G:=G) (λq _=>ae.o t (YZ ht) q) W (λg h=>XZ (HF.o g h) hb.size) (λg h=>XZ (HG.o g h) hb.size) (λq Z=>(a8 q Z).under hb HF.o) (λq Z=>(a9 q Z).under hb HG.o);unfold n_ at z;obtain⟨ct,a3⟩:=ba_ t s1;obtain⟨cu,a4⟩:=ba_ u s2;rw[a3.o]at V z;rw[a4.o]at X z;obtain⟨b,Hb⟩:=a_ (tk_ t u);rw[Hb.o]at z;have ab:=q_ z;have ac:=q_ (λ(W:QV) (hb:XW w.heap.size w W) (j:Nat) (hj:j<ct.size)=>(hb.cell (p:=(C.add (i*18)).add j) (by rw[A_,A_];exact HF.o _ a5)).trans (V j hj));have ad:=q_ (λ(W:QV) (hb:XW w.heap.size w W) (j:Nat) (hj:j<cu.size)=>(hb.cell (p:=(D.add (i*18)).add j) (by rw[A_,A_];exact HG.o _ a6)).trans (X j hj));have I1:=q_ (e8_.trans (congrArg QJ a3.size.symm));have I2:=q_ (e8_.trans (congrArg QJ a4.size.symm));have a0:=q_ U;clear ht hu a5 a6 V X a8 a9 z;go_upto_region 6 with fail;refine UZ (S:=λW'=>XW w.heap.size w W') (by kernel_rfl) Y.o.1.drew λf=>?_;refine H_.o ?_;refine O_ 0 17 (QQ (QJ C) n ca) f λf=>?_;refine O_ 1 18 (QY QU (i:Nat)) f λf=>?_;refine tlW 2 19 (YK (QJ (C.add (i*18)))) f (λw I=>?_) λf=>?_
    ·exact k_ (hl_ C n ca i a0.o w)
    refine tlW 3 20 (.agg ct) f (λw I=>?_) λf=>?_
    ·have p:=v_ w (C.add (i*18)) 41 ct _ (ac.o _ I) underlying41 rfl I1.o;exact k_ (by simp only[Instr.loadAt,Instr.sureAddr,Sem.run_bind];exact p)
    refine O_ 4 21 (QQ (QJ D) n cb) f λf=>?_;refine O_ 5 22 (QY QU (i:Nat)) f λf=>?_;refine tlW 6 23 (YK (QJ (D.add (i*18)))) f (λw I=>?_) λf=>?_
    ·exact k_ (hl_ D n cb i a0.o w)
    refine tlW 7 24 (.agg cu) f (λw I=>?_) λf=>?_
    ·have p:=v_ w (D.add (i*18)) 41 cu _ (ad.o _ I) underlying41 rfl I2.o;exact k_ (by simp only[Instr.loadAt,Instr.sureAddr,Sem.run_bind];exact p)
    refine tlC 8 λK hK=>?_;go_simp;refine (ab.o _ f).mono ?_;rintro e x ⟨rfl,hb⟩;have HX:=q_ (f.trans (hb.mono f.size));clear hb;dsimp only;refine tlB hK HX.o λf=>?_;clear hK K
    cases b with
    | false=>
     refine O_ 9 26 (XY true) f λf=>?_;refine⟨VX (by kernel_rfl) ?_ _⟩
     have O:=q_ (show hx_ L M=false from tl_ λe=>by
      have h1:=HT.o;rw[e,HU.o]at h1;injection h1 with h1;have h2:=Hb.o;rw[h1,A4_]at h2
      cases h2)
     have J:=q_ f;clear f;go_wp2_with fail;go_ret;exact⟨congrArg (λb=>Ending.returned (Value.bool b)) (O.o.symm.trans Hr.o),J.o⟩
    | true=>
     refine O_ 9 26 (XY false) f λf=>?_;refine⟨VX (by kernel_rfl) ?_ _⟩;have J:=q_ f;clear f;go_wp2_with fail;go_roundw
     case rel=>exact⟨i+1,by omega,by go_num,q_ ⟨J.o,λm hm=>by
      by_cases e:m=i
      ·subst e;rw[HT.o,HU.o,ym_.1 Hb.o]
      ·exact Y.o.2 m (by omega)⟩⟩
     case measure=>simp[intOf];omega
   ·have a2:¬(i:Int)<n:=by omega
    have O:=q_ (show hx_ L M=true from hy_.2 (D0_ (n:=n) L1.o.symm L2.o.symm λq Z=>Y.o.2 q (by omega)));have J:=q_ Y.o.1;go_wp2_with fail;go_ret;exact⟨congrArg (λb=>Ending.returned (Value.bool b)) (O.o.symm.trans Hr.o),J.o⟩
 ·have O:=q_ (show hx_ L M=false from tl_ λe=>a7 (by rw[L1.o,L2.o,e]));have af:¬(n:Int)=m:=by omega
  rw[O.o];go_enter func14,ntmps14
  go_wp2_with fail;go_ret;exact⟨rfl,XV _ _⟩
theorem x9_ {a b:e_} {ca cb:Array XJ} (ha:dx_ ca a) (hb:dx_ cb b) (w:QV) :
    Calls QW 56 #[.agg ca,.agg cb] w (rl_ (aa_ 0) a b w):=by
 obtain⟨J,sa,h1,ea⟩:=ha;obtain⟨kb,sb,h2,eb⟩:=hb;have a1:vy_ ca a sa:=⟨ea.symm⟩;have a2:vy_ cb b sb:=⟨eb.symm⟩;clear ea eb;obtain⟨z,Hz⟩:=a_ w.heap.size;obtain⟨w2,C⟩:=a_ ((w.alloc (XX ca 41)).alloc (XX cb 41));have a3:=q_ (show XW w.heap.size w w2 from by rw[<-C.o];exact F_ w _ _);have f:=q_ (show w2.heap[z]?=QJ (XX ca 41 (0,0)) from by rw[<-C.o,<-Hz.o];exact heap_alloc2_old w _ _);have h:=q_ (show w2.heap[z+1]?=QJ (XX cb 41 (0,0)) from by rw[<-C.o,<-Hz.o];exact heap_alloc2_new w _ _);have B:=q_ (show ∀W,XW w2.heap.size w2 W->XW w.heap.size w W from λW hb=>a3.o.trans (hb.mono a3.o.size));obtain⟨u0,L⟩:=L_ (a.get 0) (sa 0);obtain⟨v0,U⟩:=L_ (b.get 0) (sb 0);have ad:=q_ (a2_.trans (congrArg QJ L.size.symm));have ag:=q_ (a2_.trans (congrArg QJ U.size.symm));have aj:=q_ (λ(W:QV) (hb:XW w2.heap.size w2 W) i (hi:i<u0.size)=>(show W.cell? ((⟨z,0,QK⟩:Addr).add i)=u0[i]? from by rw[Addr.add_mid,UU W z (0+i) ca _ _ ((hb.block z (b_ f.o)).trans f.o),<-L.o,<-a1.o];exact u_ a sa 0 (by omega) i (by rwa [L.size]at hi)));have ao:=q_ (λ(W:QV) (hb:XW w2.heap.size w2 W) i (hi:i<v0.size)=>(show W.cell? ((⟨z+1,0,QK⟩:Addr).add i)=v0[i]? from by rw[Addr.add_mid,UU W (z+1) (0+i) cb _ _ ((hb.block (z+1) (b_ h.o)).trans h.o),<-U.o,<-a2.o];exact u_ b sb 0 (by omega) i (by rwa [U.size]at hi)));obtain⟨t0,a4⟩:=a_ (y_ (a.get 0) (b.get 0));have Y:=λ(W:QV)=>fd_ (a.get 0) (b.get 0) (sa 0) (sb 0) W (J 0).k5 (J 0).fit (kb 0).fit;unfold b7_ at Y;rw[L.o,U.o,a4.o]at Y;have a9:=q_ Y;clear Y;obtain⟨u1,M⟩:=L_ (a.get 1) (sa 1);obtain⟨v1,V⟩:=L_ (b.get 1) (sb 1);have ae:=q_ (a2_.trans (congrArg QJ M.size.symm));have ah:=q_ (a2_.trans (congrArg QJ V.size.symm));have ak:=q_ (λ(W:QV) (hb:XW w2.heap.size w2 W) i (hi:i<u1.size)=>(show W.cell? ((⟨z,6,QK⟩:Addr).add i)=u1[i]? from by rw[Addr.add_mid,UU W z (6+i) ca _ _ ((hb.block z (b_ f.o)).trans f.o),<-M.o,<-a1.o];exact u_ a sa 1 (by omega) i (by rwa [M.size]at hi)));have ap:=q_ (λ(W:QV) (hb:XW w2.heap.size w2 W) i (hi:i<v1.size)=>(show W.cell? ((⟨z+1,6,QK⟩:Addr).add i)=v1[i]? from by rw[Addr.add_mid,UU W (z+1) (6+i) cb _ _ ((hb.block (z+1) (b_ h.o)).trans h.o),<-V.o,<-a2.o];exact u_ b sb 1 (by omega) i (by rwa [V.size]at hi)));obtain⟨t1,a5⟩:=a_ (y_ (a.get 1) (b.get 1));have Z:=λ(W:QV)=>fd_ (a.get 1) (b.get 1) (sa 1) (sb 1) W (J 1).k5 (J 1).fit (kb 1).fit;unfold b7_ at Z;rw[M.o,V.o,a5.o]at Z;have aa:=q_ Z;clear Z;obtain⟨u2,O⟩:=L_ (a.get 2) (sa 2);obtain⟨v2,X⟩:=L_ (b.get 2) (sb 2);have af:=q_ (a2_.trans (congrArg QJ O.size.symm));have ai:=q_ (a2_.trans (congrArg QJ X.size.symm));have am:=q_ (λ(W:QV) (hb:XW w2.heap.size w2 W) i (hi:i<u2.size)=>(show W.cell? ((⟨z,12,QK⟩:Addr).add i)=u2[i]? from by rw[Addr.add_mid,UU W z (12+i) ca _ _ ((hb.block z (b_ f.o)).trans f.o),<-O.o,<-a1.o];exact u_ a sa 2 (by omega) i (by rwa [O.size]at hi)));have aq:=q_ (λ(W:QV) (hb:XW w2.heap.size w2 W) i (hi:i<v2.size)=>(show W.cell? ((⟨z+1,12,QK⟩:Addr).add i)=v2[i]? from by rw[Addr.add_mid,UU W (z+1) (12+i) cb _ _ ((hb.block (z+1) (b_ h.o)).trans h.o),<-X.o,<-a2.o];exact u_ b sb 2 (by omega) i (by rwa [X.size]at hi)));obtain⟨t2,a6⟩:=a_ (y_ (a.get 2) (b.get 2));have a0:=λ(W:QV)=>fd_ (a.get 2) (b.get 2) (sa 2) (sb 2) W (J 2).k5 (J 2).fit (kb 2).fit;unfold b7_ at a0;rw[O.o,X.o,a6.o]at a0;have ab:=q_ a0;clear a0;obtain⟨r,Hr⟩:=a_ (s_ (aa_ 0) a b);have HR:=q_ (show r=ar_ t0 (ar_ t1 t2) from by rw[<-Hr.o,<-a4.o,<-a5.o,<-a6.o];rfl);unfold rl_;rw[Hr.o];clear h1 h2 J kb;go_enter func56,ntmps56
 go_upto_region 1 with fail;rw[C.o,Hz.o];clear C
 go_wp2_with (first
  | ((with_reducible refine d_ (some 7) ?_);refine C_ (by rfl) 39 _ rfl rfl u0 _ (aj.o _ (XV _ _)) YV rfl ad.o ?_)
  | ((with_reducible refine d_ (some 9) ?_);refine C_ (by rfl) 39 _ rfl rfl v0 _ (ao.o _ (XV _ _)) YV rfl ag.o ?_))
 refine (a9.o _).mono ?_;rintro e x0 ⟨rfl,hb⟩;have D:=q_ (show XW w2.heap.size w2 x0 from hb);clear hb;by_cases a7:t0=0
 ·subst a7
  go_wp2_with (first
   | ((with_reducible refine d_ (some 14) ?_);refine C_ (by rfl) 39 _ rfl rfl u1 _ (ak.o _ D.o) YV rfl ae.o ?_)
   | ((with_reducible refine d_ (some 16) ?_);refine C_ (by rfl) 39 _ rfl rfl v1 _ (ap.o _ D.o) YV rfl ah.o ?_))
  refine (aa.o _).mono ?_;rintro e x1 ⟨rfl,hb⟩;have I:=q_ (show XW w2.heap.size w2 x1 from D.o.trans (hb.mono D.o.size));clear hb;by_cases a8:t1=0
  ·subst a8
   go_wp2_with (first
    | ((with_reducible refine d_ (some 21) ?_);refine C_ (by rfl) 39 _ rfl rfl u2 _ (am.o _ I.o) YV rfl af.o ?_)
    | ((with_reducible refine d_ (some 23) ?_);refine C_ (by rfl) 39 _ rfl rfl v2 _ (aq.o _ I.o) YV rfl ai.o ?_))
   refine (ab.o _).mono ?_;rintro e x2 ⟨rfl,hb⟩;have ac:=q_ (show XW w2.heap.size w2 x2 from I.o.trans (hb.mono I.o.size));clear hb;have HE:=q_ (show t2=r from by rw[HR.o];rfl);go_wp2_with fail;go_ret;exact⟨congrArg (λx=>Ending.returned (Value.int QU x)) HE.o,B.o _ ac.o⟩
  ·have HE:=q_ (show t1=r from by rw[HR.o,show ar_ (0:Int) (ar_ t1 t2)=ar_ t1 t2 from rfl];unfold ar_;rw[iN_ a8]);go_wp2_with fail;go_ret;exact⟨congrArg (λx=>Ending.returned (Value.int QU x)) HE.o,B.o _ I.o⟩
 ·have HE:=q_ (show t0=r from by rw[HR.o];unfold ar_;rw[iN_ a7]);go_wp2_with fail;go_ret;exact⟨congrArg (λx=>Ending.returned (Value.int QU x)) HE.o,B.o _ D.o⟩
theorem H2_ {t:e_} (h:cj_ t) (b:∀n,cg_ (t.get n)):v0_ t:=λn=>⟨g8_ (h.get n),b n,by have:=(h.get n).2.1;omega⟩
abbrev CTx:e_->Array XJ->Prop:=λt c=>dx_ c t
theorem Nw_ {w:QV} {F:Nat->Prop} {T:List e_} {v:XJ} (h:x_ 41 18 TrS w F T v):∃A cap,v = QQ A T.length cap/\SRd 18 (ofP CTx) w F T A T.length:=by obtain⟨A,cap,e,_,r⟩:=h.rd TrS.good;exact⟨A,cap,e,r.imp (λ_ h=>h) λt c ⟨h1,h2,ss,b,f⟩=>⟨H2_ h1 h2,ss,b,f⟩⟩
theorem Hy_ {α : Type} (o:α -> α -> Int) (l:List α) (v:α):(dj_ o l v).length<=l.length+1:=by
 unfold dj_;simp only;split
 ·omega
 ·rw[ZZ,List.length_cons,UJ,List.length_drop];omega
theorem fi_ {α : Type} (o:α -> α -> Int) (l:List α):(an_ o l).length<=l.length:=by
 unfold an_;suffices h:∀(l a:List α),(l.foldl (dj_ o) a).length<=a.length+l.length by have:=h l [];simpa using this
 intro l;induction l with
 | nil=>intro a;simp
 | cons x r b=>
  intro a;rw[List.foldl_cons];have h1:=b (dj_ o a x);have h2:=Hy_ o a x;rw[List.length_cons];omega
def WkS (K:List e_) (w:Way) (c:f5_) (wt:e_) (G:List e_) (b:Bool) (st k:Nat):Prop:=
 (K.length=0/\c=⟨[],false⟩/\b=true/\G=[]/\st=0/\k=500)\/(∃m d,b=true/\WkA K w m d c wt G/\st<=Ox_ m d/\k+Ox_ m d=500)\/(∃m d,b=false/\WkB K w m d c wt G/\st<=Oy_ m d/\k+Oy_ m d=500)
section
variable {T K:List e_} {w:Way} {m d st k:Nat} {c:f5_} {wt:e_} {G:List e_}
theorem WkB.keyV (b:h6_ T K w) (r:∀t,t∈T->∀n,cg_ (t.get n)) (h:WkB K w m d c wt G):t9_ (wt.get d):=by have x:=h.len;obtain⟨s,f⟩:∃s,K[m]?=QJ s:=⟨_,XQ x.2.2⟩;rw[h.2.1 s f d (by omega)];have e:=(b.mem s).1 (YZ f);exact lu_ (b.scal s e) (r s e) _
theorem WkS.start (wt:e_) (K:List e_) (w:Way):WkS K w ⟨[],false⟩ wt [] true 0 500:=by
 rcases Nat.eq_zero_or_pos K.length with h | h
 ·exact .inl ⟨h,rfl,rfl,rfl,rfl,rfl⟩
 ·exact .inr (.inl ⟨0,0,rfl,WkA.start h wt,Nat.zero_le _,rfl⟩)
end
structure WkM (F:Nat->Prop) (w0:QV) (q zw j:Nat) (T:List e_) (c:f5_) (wt:e_) (sw:Nat->XJ) (G:List e_) (S:XJ) (wx:QV):Prop where
 b:XW w0.heap.size w0 wx
 cur:if_ F wx q j T c
 way:wx.heap[zw]?=QJ (XX (N_ wt sw) 98 (0,0))
 own:x_ 41 18 TrS wx (λb=>zw<b/\b<wx.heap.size) G S
 sl:∀i,i<3->∃A cap,sw i = QQ A 0 cap
 q0:w0.heap.size<=q
 qz:q<zw
 fz:∀b,F b->b<w0.heap.size
section
variable {F:Nat->Prop} {w0 wx w':QV} {q zw j:Nat} {T:List e_} {c c':f5_} {wt:e_} {sw:Nat->XJ} {G:List e_} {S:XJ}
theorem WkM.on (h:WkM F w0 q zw j T c wt sw G S wx) (hb:XW wx.heap.size wx w'):WkM F w0 q zw j T c wt sw G S w':=
 ⟨h.b.trans (hb.mono h.b.size),h.cur.on hb,(hb.block zw (b_ h.way)).trans h.way,(h.own.turn TrS.good (Turn.of_below hb) (λb hb=>hb.2) (λb hb=>λe=>by have e:wx.heap.size<=b:=e;have:=hb.2;omega)).mono TrS.good λb h1=>⟨h1.1,XZ h1.2 hb.size⟩,h.sl,h.q0,h.qz,h.fz⟩
theorem WkM.drew (h:WkM F w0 q zw j T c wt sw G S wx):WkM F w0 q zw j T c wt sw G S wx.drew:=h.on (XV _ _).drew
theorem WkM.more {g cap n:Nat} {t:e_} (h:WkM F w0 q zw j T c wt sw G S wx) (r:wx.grownBy w' S.ownBlock) (B:S.ownBlock=QJ g\/wx.heap.size<=g) (x:g<w'.heap.size)
    (C:x_ 41 18 TrS w' (λb=>(zw<b/\b<wx.heap.size)\/b=g) (G++[t]) (QQ (QJ ⟨g,0,QK⟩) n cap)):WkM F w0 q zw j T c wt sw (G++[t]) (QQ (QJ ⟨g,0,QK⟩) n cap) w':=by
 have f:∀b,S.ownBlock=QJ b->zw<b/\b<wx.heap.size:=λb hb=>by
  obtain⟨_,_,_,z,_⟩:=h.own;exact z b hb
 have ht:=Turn.of_grown r;refine⟨h_ h.b ht (λb hb=>by have:=f b hb.symm;have:=h.q0;have:=h.qz;omega),h.cur.turn ht (λb hb e=>by have:=f b e.symm;have:=h.fz b hb;have:=h.q0;have:=h.qz;omega) (λe=>by have:=f q e.symm;have:=h.qz;omega),ht.heap h.way (λe=>by have:=f zw e.symm;omega),C.mono TrS.good λb hb=>?_,h.sl,h.q0,h.qz,h.fz⟩;rcases hb with hb | rfl
 ·exact⟨hb.1,XZ hb.2 r.size⟩
 ·refine⟨?_,x⟩;rcases B with h1 | h1
  ·exact (f _ h1).1
  ·have:=b_ h.way;omega
end
theorem Ob_ {op:Oper} {a:Act} {K:Act->QV->Prop} {Q:Exit->Act->QV->Prop} {w:QV} (x:Operand) (e:op.op = .buildSlice 22 1 #[(0,x)]) {c:Array XJ} (f:a.eval x = .agg c) (b:c.size=18) (h:K (a.put op.dst (.slice (QJ ⟨w.heap.size,0,QK⟩) 1 1)) (w.alloc (.cells c 41))):op.wp QW a w K Q:=by unfold Oper.wp execOp;simp only[e,List.map_toArray,List.map_cons,List.map_nil,f,Sem.run_bind,Sem.run_pure,jc_ c b w,Result.andThen_ok];exact h
theorem yb_ (t:e_) (ok:OkT t) (F:Nat->Prop) (ss:Nat->XJ) (w:QV) (U:∀g,F g->g<w.heap.size) (hv:∀n,n<3->VRd w F (t.get n) (.agg (c_ (t.get n) (ss n)))) :
    Calls QW 16 #[.agg (N_ t ss)] w (n_ (ch_ t) w):=by
 obtain⟨c,O⟩:=ba_ t ss;rw[O.o];obtain⟨z,Hz⟩:=a_ w.heap.size;obtain⟨w2,X⟩:=a_ (w.alloc (XX c 41));have aa:=q_ (show XW w.heap.size w w2 from by rw[<-X.o];exact (XV _ _).alloc (XK _) _);have I:=q_ (show w2.heap[z]?=QJ (XX c 41 (0,0)) from by rw[<-X.o,<-Hz.o];exact XU w _);have f:=q_ (show ∀W,XW w2.heap.size w2 W->XW w.heap.size w W from λW hb=>aa.o.trans (hb.mono aa.o.size));obtain⟨u0,Y⟩:=L_ (t.get 0) (ss 0);have ae:=q_ (a2_.trans (congrArg QJ Y.size.symm));have ak:=q_ (λ(W:QV) (hb:XW w2.heap.size w2 W) i (hi:i<u0.size)=>(show W.cell? ((⟨z,0,QK⟩:Addr).add i)=u0[i]? from by rw[Addr.add_mid,UU W z (0+i) c _ _ ((hb.block z (b_ I.o)).trans I.o),<-Y.o,<-O.o];exact u_ t ss 0 (by omega) i (by rwa [Y.size]at hi)));have a1:=λ(W:QV) (hb:XW w.heap.size w W)=>kw_ (t.get 0) (ZX (ok.get 0).size (by decide)) F _ W (λg h=>XZ (U g h) hb.size) ((hv 0 (by omega)).under hb U);unfold n_ at a1;obtain⟨m0,a7⟩:=a_ (I_ (t.get 0) 0);rw[Y.o,a7.o]at a1;have ab:=q_ a1;clear a1;obtain⟨V,a4⟩:=a_ (t.get 0).kind;have ah:=q_ (λ(W:QV) (hb:XW w2.heap.size w2 W)=>(show W.cell? ⟨z,0,QK⟩=QJ (QY QU V) from by rw[UU W z 0 c _ _ ((hb.block z (b_ I.o)).trans I.o),<-O.o,<-a4.o];rfl));obtain⟨u1,Z⟩:=L_ (t.get 1) (ss 1);have af:=q_ (a2_.trans (congrArg QJ Z.size.symm));have am:=q_ (λ(W:QV) (hb:XW w2.heap.size w2 W) i (hi:i<u1.size)=>(show W.cell? ((⟨z,6,QK⟩:Addr).add i)=u1[i]? from by rw[Addr.add_mid,UU W z (6+i) c _ _ ((hb.block z (b_ I.o)).trans I.o),<-Z.o,<-O.o];exact u_ t ss 1 (by omega) i (by rwa [Z.size]at hi)));have a2:=λ(W:QV) (hb:XW w.heap.size w W)=>kw_ (t.get 1) (ZX (ok.get 1).size (by decide)) F _ W (λg h=>XZ (U g h) hb.size) ((hv 1 (by omega)).under hb U);unfold n_ at a2;obtain⟨m1,a8⟩:=a_ (I_ (t.get 1) 0);rw[Z.o,a8.o]at a2;have ac:=q_ a2;clear a2;obtain⟨k1,a5⟩:=a_ (t.get 1).kind;have ai:=q_ (λ(W:QV) (hb:XW w2.heap.size w2 W)=>(show W.cell? ⟨z,6,QK⟩=QJ (QY QU k1) from by rw[UU W z 6 c _ _ ((hb.block z (b_ I.o)).trans I.o),<-O.o,<-a5.o];rfl));obtain⟨u2,a0⟩:=L_ (t.get 2) (ss 2);have ag:=q_ (a2_.trans (congrArg QJ a0.size.symm));have ao:=q_ (λ(W:QV) (hb:XW w2.heap.size w2 W) i (hi:i<u2.size)=>(show W.cell? ((⟨z,12,QK⟩:Addr).add i)=u2[i]? from by rw[Addr.add_mid,UU W z (12+i) c _ _ ((hb.block z (b_ I.o)).trans I.o),<-a0.o,<-O.o];exact u_ t ss 2 (by omega) i (by rwa [a0.size]at hi)));have a3:=λ(W:QV) (hb:XW w.heap.size w W)=>kw_ (t.get 2) (ZX (ok.get 2).size (by decide)) F _ W (λg h=>XZ (U g h) hb.size) ((hv 2 (by omega)).under hb U);unfold n_ at a3;obtain⟨m2,a9⟩:=a_ (I_ (t.get 2) 0);rw[a0.o,a9.o]at a3;have ad:=q_ a3;clear a3;obtain⟨x,a6⟩:=a_ (t.get 2).kind;have aj:=q_ (λ(W:QV) (hb:XW w2.heap.size w2 W)=>(show W.cell? ⟨z,12,QK⟩=QJ (QY QU x) from by rw[UU W z 12 c _ _ ((hb.block z (b_ I.o)).trans I.o),<-O.o,<-a6.o];rfl));have D:=q_ (show ch_ t=(m0&&(m1&&(m2&&(decide (k1=8)&&(decide (V=8\/V=9)&&decide (x=8\/x=9\/x=10\/x=4\/x=1\/x=2\/x=3)))))) from by rw[<-a7.o,<-a8.o,<-a9.o,<-a4.o,<-a5.o,<-a6.o];rfl);obtain⟨r,Hr⟩:=a_ (ch_ t);rw[Hr.o]at D;unfold n_;rw[Hr.o];clear hv U ok a4 a5 a6 a7 a8 a9 Hr;go_enter func16,ntmps16
 go_upto_region 1 with fail;rw[X.o,Hz.o];clear X;go_wp2_with ((with_reducible refine d_ (some 4) ?_);refine C_ (by rfl) 39 _ rfl rfl u0 _ (ak.o _ (XV _ _)) YV rfl ae.o ?_)
 refine (ab.o _ (f.o _ (XV _ _))).mono ?_;rintro e x0 ⟨rfl,hb⟩;have L:=q_ (show XW w2.heap.size w2 x0 from hb);clear hb
 cases m0 with
 | false=>
  go_wp2_with fail;go_ret;exact⟨congrArg (λb=>Ending.returned (Value.bool b)) (show false=r from by rw[D.o];simp),f.o _ L.o⟩
 | true=>
  go_wp2_with ((with_reducible refine d_ (some 9) ?_);refine C_ (by rfl) 39 _ rfl rfl u1 _ (am.o _ L.o) YV rfl af.o ?_)
  refine (ac.o _ (f.o _ L.o)).mono ?_;rintro e x1 ⟨rfl,hb⟩;have M:=q_ (show XW w2.heap.size w2 x1 from L.o.trans (hb.mono L.o.size));clear hb
  cases m1 with
  | false=>
   go_wp2_with fail;go_ret;exact⟨congrArg (λb=>Ending.returned (Value.bool b)) (show false=r from by rw[D.o];simp),f.o _ M.o⟩
  | true=>
   go_wp2_with ((with_reducible refine d_ (some 15) ?_);refine C_ (by rfl) 39 _ rfl rfl u2 _ (ao.o _ M.o) YV rfl ag.o ?_)
   refine (ad.o _ (f.o _ M.o)).mono ?_;rintro e x2 ⟨rfl,hb⟩;have B:=q_ (show XW w2.heap.size w2 x2 from M.o.trans (hb.mono M.o.size));clear hb
   cases m2 with
   | false=>
    go_wp2_with fail;go_ret;exact⟨congrArg (λb=>Ending.returned (Value.bool b)) (show false=r from by rw[D.o];simp),f.o _ B.o⟩
   | true=>
    have q0:=ah.o x2 B.o;have q1:=ai.o x2 B.o;have q2:=aj.o x2 B.o;by_cases C:x=8\/x=9\/x=10\/x=4\/x=1\/x=2\/x=3
    ·have HK:=q_ C;by_cases h1:k1=8
     ·have H1:=q_ h1;by_cases h0:V=8
      ·have J:=q_ (show true=r from by rw[D.o,dT_ H1.o,dT_ (.inl h0),dT_ HK.o];rfl);rcases C with rfl | rfl | rfl | rfl | rfl | rfl | rfl
       all_goals
        subst h0;subst h1;go_wp2_with fail;go_ret;exact⟨congrArg (λb=>Ending.returned (Value.bool b)) J.o,f.o _ B.o⟩
      ·by_cases h9:V=9
       ·have J:=q_ (show true=r from by rw[D.o,dT_ H1.o,dT_ (.inr h9),dT_ HK.o];rfl);rcases C with rfl | rfl | rfl | rfl | rfl | rfl | rfl
        all_goals
         subst h9;subst h1;go_wp2_with fail;go_ret;exact⟨congrArg (λb=>Ending.returned (Value.bool b)) J.o,f.o _ B.o⟩
       ·have J:=q_ (show false=r from by rw[D.o,dT_ H1.o,dF_ (by rintro (h | h);exact h0 h;exact h9 h)];rfl);rcases C with rfl | rfl | rfl | rfl | rfl | rfl | rfl
        all_goals
         subst h1;go_wp2_with fail;go_ret;exact⟨congrArg (λb=>Ending.returned (Value.bool b)) J.o,f.o _ B.o⟩
     ·have J:=q_ (show false=r from by rw[D.o,dF_ h1];rfl);have ap:(k1==(8:Int))=false:=by simpa using h1
      by_cases h0:V=8
      ·rcases C with rfl | rfl | rfl | rfl | rfl | rfl | rfl
       all_goals
        subst h0;go_wp2_with fail;go_ret;exact⟨congrArg (λb=>Ending.returned (Value.bool b)) J.o,f.o _ B.o⟩
      ·by_cases h9:V=9
       ·rcases C with rfl | rfl | rfl | rfl | rfl | rfl | rfl
        all_goals
         subst h9;go_wp2_with fail;go_ret;exact⟨congrArg (λb=>Ending.returned (Value.bool b)) J.o,f.o _ B.o⟩
       ·rcases C with rfl | rfl | rfl | rfl | rfl | rfl | rfl
        all_goals
         go_wp2_with fail;go_ret;exact⟨congrArg (λb=>Ending.returned (Value.bool b)) J.o,f.o _ B.o⟩
    ·have J:=q_ (show false=r from by rw[D.o,dF_ C,Bool.and_false,Bool.and_false];rfl);have g1:¬x=8:=λh=>C (.inl h);have g2:¬x=9:=λh=>C (.inr (.inl h));have g3:¬x=10:=λh=>C (.inr (.inr (.inl h)));have g4:¬x=4:=λh=>C (.inr (.inr (.inr (.inl h))));have g5:¬x=1:=λh=>C (.inr (.inr (.inr (.inr (.inl h)))));have g6:¬x=2:=λh=>C (.inr (.inr (.inr (.inr (.inr (.inl h))))));have g7:¬x=3:=λh=>C (.inr (.inr (.inr (.inr (.inr (.inr h))))));clear C;go_wp2_with fail;go_ret;exact⟨congrArg (λb=>Ending.returned (Value.bool b)) J.o,f.o _ B.o⟩
theorem ko_ (v:g_) (f:V_ v.list<=100000000) {F:Nat->Prop} {u:XJ} (w:QV) (b:∀g,F g->g<w.heap.size) (h:VRd w F v u):Calls QW 44 #[u] w (k4_ v w):=by obtain⟨A,cap,rfl,_,e⟩:=h.inv;exact nc_ v A cap w b e λw' h1 h2=>wi_ (V_ v.list+1) v.list (by omega) f F A _ cap w' h2 h1
theorem nb_ {v:g_} {s:XJ} {w:QV} {F:Nat->Prop} (h:gn_ w F v.list s):VRd w F v (.agg (c_ v s)):=(ib_.of_list h).rd
theorem J4_ {op:Oper} {a:Act} {K:Act->QV->Prop} {Q:Exit->Act->QV->Prop} (s x:Operand) (ho:op.op = .call { callee:=.builtin .append,args:=#[s,x],argTypes:=#[22,22] })
    {wr:QV} {F G:Nat->Prop} {L:List e_} {S:XJ} {t:e_} {c:Array XJ} {n:Nat} (hS:a.eval s=S) (z:x_ 41 18 TrR wr F L S) (hL:L.length=n) (hx:a.eval x = QQ (QJ ⟨wr.heap.size,0,QK⟩) 1 1) (D:TrR wr G t c) (I:∀u∈c.toList,u.oneCell'=true) (a0:n<=1000000000) (hF:∀b,F b->b<wr.heap.size) (hG:∀b,G b->b<wr.heap.size) (C:∀b,G b->S.ownBlock≠QJ b)
    (h:∀g cap w',x_ 41 18 TrR w' (λb=>F b\/G b\/b=g) (L++[t]) (QQ (QJ ⟨g,0,QK⟩) (n+1) cap)->wr.grownBy w' S.ownBlock->(S.ownBlock=QJ g\/wr.heap.size<=g)->g<w'.heap.size->K (a.put op.dst (QQ (QJ ⟨g,0,QK⟩) (n+1) cap)) w') :
    op.wp QW a (wr.alloc (XX c 41)) K Q:=by
 subst hL;obtain⟨i0,hi,O,U,V⟩:=info_parts o7_;obtain⟨cs,f,Z,B,hr⟩:=z;have r:c.size=18:=by obtain⟨ss,e,_⟩:=D;rw[e];rfl
 refine wp_append_lies _ s x _ ho 0 41 i0 _ 18 240 underlying22 hi O U V rfl (by decide) S L.length (R_ cs L.length) hS (f.alloc _) ⟨wr.heap.size,0,QK⟩ 1 1 c.toList hx (by rw[Array.length_toList,r]) (World.news_of_block (XU wr _)) I (by omega) (by unfold maxLen;omega) (by omega) (Nat.zero_le _) (wr.heap.size+1) (by simp) λg cap w' h1 h2 X Y=>?_;have J:=ak_ h2;have M:S.ownBlock=QJ g\/wr.heap.size<=g:=X.imp id (λe=>by rw[e];omega);exact h g cap w' (x_.snoc (x:=t) (c:=c) (G:=G) TrR.good ⟨cs,f,Z,B,hr⟩ D r C hF hG (λa1 W=>by rw[pb_ W f];exact h1) J M) J M Y
def k3_ (L:List e_) (w:QV) (e:Ending) (w':QV):Prop:=∃v,e = YQ v/\x_ 41 18 TrR w' (λb=>w.heap.size<=b/\b<w'.heap.size) L v/\XW w.heap.size w w'
structure CpM (w:QV) (L:List e_) (S:XJ) (wx:QV):Prop where
 hb:XW w.heap.size w wx
 own:x_ 41 18 TrR wx (λb=>w.heap.size<=b/\b<wx.heap.size) L S
theorem CpM.on {w wx w':QV} {L:List e_} {S:XJ} (h:CpM w L S wx) (hb:XW wx.heap.size wx w'):CpM w L S w':=
 ⟨h.hb.trans (hb.mono h.hb.size),(h.own.turn TrR.good (Turn.of_below hb) (λb hb=>hb.2) (λb hb=>λe=>by have e:wx.heap.size<=b:=e;have:=hb.2;omega)).mono TrR.good λb h1=>⟨h1.1,XZ h1.2 hb.size⟩⟩
theorem CpM.drew {w wx:QV} {L:List e_} {S:XJ} (h:CpM w L S wx):CpM w L S wx.drew:=h.on (XV _ _).drew
theorem CpM.lt {w wx:QV} {L:List e_} {S:XJ} (h:CpM w L S wx) {b:Nat} (hb:S.ownBlock=QJ b):w.heap.size<=b/\b<wx.heap.size:=by obtain⟨_,_,_,e,_⟩:=h.own;exact e b hb
theorem CpM.more {w wr w':QV} {g cap n:Nat} {S:XJ} {L:List e_} {t:e_} {G:Nat->Prop} (h:CpM w L S wr) (e:wr.grownBy w' S.ownBlock) (x:S.ownBlock=QJ g\/wr.heap.size<=g) (r:g<w'.heap.size) (f:∀b,G b->w.heap.size<=b/\b<wr.heap.size)
    (z:x_ 41 18 TrR w' (λb=>(w.heap.size<=b/\b<wr.heap.size)\/G b\/b=g) (L++[t]) (QQ (QJ ⟨g,0,QK⟩) n cap)):CpM w (L++[t]) (QQ (QJ ⟨g,0,QK⟩) n cap) w':=by
 refine⟨h_ h.hb (Turn.of_grown e) (λb hb=>(h.lt hb.symm).1),z.mono TrR.good λb hb=>?_⟩;rcases hb with hb | hb | rfl
 ·exact⟨hb.1,XZ hb.2 e.size⟩
 ·exact⟨(f b hb).1,XZ (f b hb).2 e.size⟩
 ·refine⟨?_,r⟩;rcases x with h1 | h1
  ·exact (h.lt h1).1
  ·exact ZX h.hb.size h1
theorem Nu_ {t:e_} {ss:Nat->XJ} (h:∀n,n<3->∃A l c,ss n = QQ A l c):∀u∈(N_ t ss).toList,u.oneCell'=true:=ck_ t ss h
theorem p4_ {F:Nat->Prop} {w:QV} {L:List e_} {A:Option Addr} {n cp:Nat} (h:SRd 18 TrR w F L A n) (hF:∀b,F b->b<w.heap.size) (hn:n<=1000000000) (ap:∀t,t∈L->∀i,V_ (t.get i).list<=100000000) :
    Calls QW 11 #[QQ A n cp] w (k3_ L w):=by
 have H1:=q_ h;have HF:=q_ hF;have a4:=q_ ap;have L1:=q_ h.1;have HN:=q_ hn;have b9:=q_ (show CpM w [] (QQ QK 0 0) w from ⟨XV _ _,x_.nil ..⟩);clear h hF ap;go_enter func11,ntmps11
 go_wp2_with fail;go_loopw [3,4] (λs3 s4 wx=>∃(k:Nat) (S:XJ),k<=n/\s4 = QY QU (k:Nat)/\S=s3/\Q_ (CpM w (L.take k) S wx)) (λ_ s _=>n-(intOf s).toNat)
 case atStart=>exact⟨0,_,by omega,rfl,rfl,q_ b9.o⟩
 case round=>
  obtain⟨k,S,hk,rfl,rfl,Z⟩:=hrel;by_cases am:k<n
  ·have a1:(0:Int)<=k:=by omega
   have a2:(k:Int)<n:=by omega
   have w1:IntKind.i64.wrap ((k:Int)+1)=(k:Int)+1:=YU _ (by omega);obtain⟨t,ht⟩:∃t,L[k]?=QJ t:=⟨_,XQ (by rw[<-L1.o];exact am)⟩;obtain⟨ad,ss,rfl,Y,O,hr⟩:=TrR.cells H1.o ht;have HT:=q_ ht;have a5:=q_ (YZ ht);have B:=q_ am;have HR:=q_ (λ(W:QV) (hb:XW w.heap.size w W) (q:Nat) (O:q<3)=>(hr q O).under hb HF.o);have a3:=q_ (λ(W:QV) (hb:XW w.heap.size w W) g h=>XZ (HF.o g h) hb.size);obtain⟨u0,C⟩:=L_ (t.get 0) (ss 0);have bb:=q_ (a2_.trans (congrArg QJ C.size.symm));have az:=q_ (λ(W:QV) (hb:XW w.heap.size w W) (j:Nat) (J:j<u0.size)=>(show W.cell? (((ad.add (k*18)).add 0).add j)=u0[j]? from by have h1:=O (0+j) (by rw[gd_];rw[C.size]at J;omega);rw[add_of_add,hb.cell (p:=(ad.add (k*18)).add (0+j)) (by rw[A_,A_];exact HF.o _ Y),h1,<-C.o];exact u_ t ss 0 (by omega) j (by rwa [C.size]at J)));have a6:=λ(W:QV) (hb:XW w.heap.size w W)=>ko_ (t.get 0) (a4.o t a5.o 0) W (a3.o W hb) (HR.o W hb 0 (by omega));rw[C.o]at a6;have av:=q_ a6;clear a6;obtain⟨u1,D⟩:=L_ (t.get 1) (ss 1);have bc:=q_ (a2_.trans (congrArg QJ D.size.symm));have b0:=q_ (λ(W:QV) (hb:XW w.heap.size w W) (j:Nat) (J:j<u1.size)=>(show W.cell? (((ad.add (k*18)).add 6).add j)=u1[j]? from by have h1:=O (6+j) (by rw[gd_];rw[D.size]at J;omega);rw[add_of_add,hb.cell (p:=(ad.add (k*18)).add (6+j)) (by rw[A_,A_];exact HF.o _ Y),h1,<-D.o];exact u_ t ss 1 (by omega) j (by rwa [D.size]at J)));have a7:=λ(W:QV) (hb:XW w.heap.size w W)=>ko_ (t.get 1) (a4.o t a5.o 1) W (a3.o W hb) (HR.o W hb 1 (by omega));rw[D.o]at a7;have aw:=q_ a7;clear a7;obtain⟨u2,I⟩:=L_ (t.get 2) (ss 2);have bd:=q_ (a2_.trans (congrArg QJ I.size.symm));have b5:=q_ (λ(W:QV) (hb:XW w.heap.size w W) (j:Nat) (J:j<u2.size)=>(show W.cell? (((ad.add (k*18)).add 12).add j)=u2[j]? from by have h1:=O (12+j) (by rw[gd_];rw[I.size]at J;omega);rw[add_of_add,hb.cell (p:=(ad.add (k*18)).add (12+j)) (by rw[A_,A_];exact HF.o _ Y),h1,<-I.o];exact u_ t ss 2 (by omega) j (by rwa [I.size]at J)));have a8:=λ(W:QV) (hb:XW w.heap.size w W)=>ko_ (t.get 2) (a4.o t a5.o 2) W (a3.o W hb) (HR.o W hb 2 (by omega));rw[I.o]at a8;have ay:=q_ a8;clear a8;clear ht Y O hr;go_upto_region 5 with fail;refine UZ (S:=λW'=>XW w.heap.size w W') (by kernel_rfl) Z.o.hb.drew λf=>?_;refine H_.o ?_;refine O_ 0 11 (S) f λf=>?_;refine O_ 1 12 (QQ (QJ ad) n cp) f λf=>?_;refine O_ 2 13 (QY QU (k:Nat)) f λf=>?_;refine tlW 3 14 (YK (QJ (ad.add (k*18)))) f (λw z=>?_) λf=>?_
   ·exact k_ (hl_ ad n cp k B.o w)
   refine O_ 4 15 (YK (QJ ((ad.add (k*18)).add 0))) f λf=>?_;refine tlW 5 16 (.agg u0) f (λw z=>?_) λf=>?_
   ·have p:=v_ w ((ad.add (k*18)).add 0) 39 u0 _ (az.o _ z) YV rfl bb.o;exact k_ (by simp only[Instr.loadAt,Instr.sureAddr,Sem.run_bind];exact p)
   refine O_ 7 18 (QQ (QJ ad) n cp) f λf=>?_;refine O_ 8 19 (QY QU (k:Nat)) f λf=>?_;refine tlW 9 20 (YK (QJ (ad.add (k*18)))) f (λw z=>?_) λf=>?_
   ·exact k_ (hl_ ad n cp k B.o w)
   refine O_ 10 21 (YK (QJ ((ad.add (k*18)).add 6))) f λf=>?_;refine tlW 11 22 (.agg u1) f (λw z=>?_) λf=>?_
   ·have p:=v_ w ((ad.add (k*18)).add 6) 39 u1 _ (b0.o _ z) YV rfl bc.o;exact k_ (by simp only[Instr.loadAt,Instr.sureAddr,Sem.run_bind];exact p)
   refine O_ 13 24 (QQ (QJ ad) n cp) f λf=>?_;refine O_ 14 25 (QY QU (k:Nat)) f λf=>?_;refine tlW 15 26 (YK (QJ (ad.add (k*18)))) f (λw z=>?_) λf=>?_
   ·exact k_ (hl_ ad n cp k B.o w)
   refine O_ 16 27 (YK (QJ ((ad.add (k*18)).add 12))) f λf=>?_;refine tlW 17 28 (.agg u2) f (λw z=>?_) λf=>?_
   ·have p:=v_ w ((ad.add (k*18)).add 12) 39 u2 _ (b5.o _ z) YV rfl bd.o;exact k_ (by simp only[Instr.loadAt,Instr.sureAddr,Sem.run_bind];exact p)
   refine tlC 6 λK x=>?_;go_simp;refine (av.o _ f).mono ?_;unfold k4_;rintro e x0 ⟨s0,rfl,hb,M⟩;obtain⟨v0,ag⟩:=L_ (t.get 0) s0;rw[ag.o];have a9:=q_ hb;have ac:=q_ M;have b6:=q_ (f.trans (hb.mono f.size));clear hb M;dsimp only;refine tlB x b6.o λf=>?_;clear x K;refine tlC 12 λK x=>?_;go_simp;refine (aw.o _ f).mono ?_;unfold k4_;rintro e x1 ⟨s1,rfl,hb,M⟩;obtain⟨v1,ah⟩:=L_ (t.get 1) s1;rw[ah.o];have a0:=q_ hb;have ae:=q_ M;have b7:=q_ (f.trans (hb.mono f.size));clear hb M;dsimp only;refine tlB x b7.o λf=>?_;clear x K;refine tlC 18 λK x=>?_;go_simp;refine (ay.o _ f).mono ?_;unfold k4_;rintro e x2 ⟨s2,rfl,hb,M⟩;obtain⟨v2,ai⟩:=L_ (t.get 2) s2;rw[ai.o];have V:=q_ hb;have af:=q_ M;have b8:=q_ (f.trans (hb.mono f.size));clear hb M;dsimp only;refine tlB x b8.o λf=>?_;clear x K;obtain⟨U,r⟩:∃U:Nat->XJ,U 0=s0/\U 1=s1/\U 2=s2:=⟨λi=>if i=0 then s0 else if i=1 then s1 else s2,rfl,rfl,rfl⟩
   obtain⟨ct,X⟩:=ba_ t U
   have au:=q_ (show ∀W,(Instr.build 41 #[(0,.agg v0),(1,.agg v1),(2,.agg v2)]).run QW W = .ok (.agg ct) W from λW=>by
    have:=na_ t U W;rwa [r.1,r.2.1,r.2.2,ag.o,ah.o,ai.o,X.o]at this)
   have ZC:=q_ X.size;have aa:=q_ (((Z.o.drew.on a9.o).on a0.o).on V.o)
   have ba:=q_ (show TrR x2 (λb=>wr.heap.size<=b/\b<x2.heap.size) t ct from by
    have g0:=a9.o.size;have g1:=a0.o.size;have g2:=V.o.size;refine⟨U,X.o.symm,λq O=>?_⟩;rcases (show q=0\/q=1\/q=2 by omega) with rfl | rfl | rfl
    ·rw[r.1];exact (((nb_ ac.o).under a0.o (λb hb=>hb.2)).under V.o (λb hb=>XZ hb.2 g1)).mono λb hb=>⟨hb.1,XZ hb.2 (ZX g1 g2)⟩
    ·rw[r.2.1];exact ((nb_ ae.o).under V.o (λb hb=>hb.2)).mono λb hb=>⟨ZX g0 hb.1,XZ hb.2 g2⟩
    ·rw[r.2.2];exact (nb_ af.o).mono λb hb=>⟨ZX (ZX g0 g1) hb.1,hb.2⟩)
   have ar:=q_ (show ∀u∈ct.toList,u.oneCell'=true from by
    rw[<-X.o];refine Nu_ λq O=>?_;rcases (show q=0\/q=1\/q=2 by omega) with rfl | rfl | rfl
    ·obtain⟨A,c,e⟩:=ac.o.form;exact⟨A,_,c,by rw[r.1,e]⟩
    ·obtain⟨A,c,e⟩:=ae.o.form;exact⟨A,_,c,by rw[r.2.1,e]⟩
    ·obtain⟨A,c,e⟩:=af.o.form;exact⟨A,_,c,by rw[r.2.2,e]⟩)
   clear r;refine tlW 19 30 (.agg ct) f (λw z=>?_) λf=>?_
   ·refine k_ (Eq.trans (congrArg (λq=>(Instr.build 41 q).run QW w) ?_) (au.o w));kernel_rfl
   refine tlC 20 λK x=>?_;refine Ob_ (.tmp 30) rfl rfl ZC.o ?_;refine tlB x (f.alloc f.size _) λf=>?_;clear x K;refine tlC 21 λK x=>?_;refine J4_ (.tmp 11) (.tmp 31) rfl rfl aa.o.own (show (L.take k).length=k from by rw[UJ];have:=L1.o;have:=B.o;omega) rfl ba.o ar.o (by have:=HN.o;have:=B.o;omega) (λb hb=>hb.2) (λb hb=>hb.2) (λb hb e=>by have:=(Z.o.lt e).2;have:=hb.1;omega) λg7 c7 w7 ao aj ak aq=>?_;have ab:=q_ (aa.o.more aj ak aq (λb hb=>⟨ZX Z.o.hb.size hb.1,hb.2⟩) ao);clear ao aj ak aq;refine tlB x ab.o.hb λf=>?_;clear x K;refine O_ 22 3 (QQ (QJ ⟨g7,0,QK⟩) (k+1) c7) f λf=>?_;refine⟨VX (by kernel_rfl) ?_ _⟩;clear f;go_wp2_with fail;go_roundw
   case rel=>exact⟨k+1,_,by omega,by go_num,rfl,q_ (by rw[f_ HT.o];exact ab.o)⟩
   case measure=>simp[intOf];omega
  ·have a2:¬(k:Int)<n:=by omega
   have HE:=q_ (show k3_ L w (YQ S) wr from ⟨S,rfl,by have:=Z.o.own;rwa [YJ (by have:=L1.o;omega)]at this,Z.o.hb⟩);go_wp2_with fail;go_ret;exact HE.o
theorem r4_ {w:QV} {E sz g n cap k:Nat} {cs:Nat->Array XJ} {c:Array XJ} (h:w.ownsRow 0 E sz (QQ (QJ ⟨g,0,QK⟩) n cap) n (R_ cs n)) (W:∀i,i<n->(cs i).size=sz) (hk:k<n) (X:c.size=sz) :
    (w.setCells g (k*sz) c.toList).ownsRow 0 E sz (QQ (QJ ⟨g,0,QK⟩) n cap) n (R_ (λi=>if i=k then c else cs i) n):=by
 have f:∀i,i<n->((λi=>if i=k then c else cs i) i).size=sz:=λi hi=>by
  dsimp only;split
  ·exact X
  ·exact W i hi
 rcases h.2 with⟨h0,_⟩ | ⟨g',a0,I,h0,hb,hg,L,Y,J,C⟩
 ·simp at h0
 ·simp only[Value.slice.injEq,Option.some.injEq,Addr.mk.injEq,and_true,true_and]at h0;obtain⟨rfl,rfl⟩:=h0;obtain⟨M,h1,h2,h3⟩:=hh_ c.toList (k*sz) hg;refine⟨by rw[ap_ f],.inr ⟨g,cap,M,rfl,hb,h1,L,Y,by rw[h2];exact J,?_⟩⟩;have Z:n*sz<=I.size:=ZX (Nat.mul_le_mul_right sz L) (by rw[J];exact XK _);refine List.ext_getElem? λj=>?_;by_cases U:j<n*sz
  ·rcases Nat.eq_zero_or_pos sz with D | D
   ·subst D;omega
   ·have hi:j / sz<n:=(Nat.div_lt_iff_lt_mul D).2 U;have V:j % sz<sz:=Nat.mod_lt _ D;have e:j=(j / sz)*sz+j % sz:=by rw[Nat.mul_comm];exact (Nat.div_add_mod j sz).symm
    have B:(I.toList.take (n*sz))[j]?=(R_ cs n)[j]?:=by rw[C]
    rw[List.getElem?_take_of_lt U,Array.getElem?_toList]at B;rw[List.getElem?_take_of_lt U,Array.getElem?_toList,h3 j,Array.length_toList,X];obtain⟨a,O⟩:∃a,a=j / sz:=⟨_,rfl⟩;obtain⟨b,x⟩:∃b,b=j % sz:=⟨_,rfl⟩;rw[<-O,<-x]at e;rw[<-O]at hi;rw[<-x]at V;clear O x;subst e;rw[cr_ f hi V];by_cases r:a=k
    ·subst r;rw[iP_ ⟨by omega,by omega,by omega⟩,iP_ rfl,Nat.add_sub_cancel_left,Array.getElem?_toList]
    ·rw[iN_ r,iN_,B,cr_ W hi V];rintro⟨q1,q2,_⟩;rcases Nat.lt_or_gt_of_ne r with z | z
     ·have:=Nat.mul_le_mul_right sz (show a+1<=k from z);rw[Nat.succ_mul]at this;omega
     ·have:=Nat.mul_le_mul_right sz (show k+1<=a from z);rw[Nat.succ_mul]at this;omega
  ·rw[ZK (by rw[UJ,Array.length_toList];omega),ZK (by rw[ap_ f];omega)]
section
variable {α : Type} {E:TypeId} {sz:Nat} {R:α -> Array XJ->Prop} {w w':QV} {l:List α} {g n cap:Nat}
theorem ii_ {c:Array XJ} (h:∀u∈c.toList,u.oneCell'=true):c.all (·.oneCell')=true:=by rw[<-Array.toArray_toList (xs:=c)];exact all_oneCell_toArray h
theorem c0_.set (r:e1_ sz R) (h:c0_ E sz R w l (QQ (QJ ⟨g,0,QK⟩) n cap)) (I:l.length=n) {k:Nat} (z:k<n) {x:α} {c:Array XJ} (C:R x c) :
    c0_ E sz R (w.setCells g (k*sz) c.toList) (l.set k x) (QQ (QJ ⟨g,0,QK⟩) n cap):=by
 obtain⟨cs,f,B⟩:=h;subst I;have D:∀i,i<l.length->(cs i).size=sz:=λi hi=>r.size (B i _ (XQ hi));refine⟨λi=>if i=k then c else cs i,?_,λi y b=>?_⟩
 ·rw[List.length_set];exact r4_ f D z (r.size C)
 ·dsimp only;rw[List.getElem?_set]at b;by_cases e:k=i
  ·subst e;rw[iP_ rfl,iP_ z]at b;injection b with b;subst b;rw[iP_ rfl];exact C
  ·rw[iN_ e]at b;rw[iN_ (λh=>e h.symm)];exact B i y b
end
end
end Go.Proofs.YtefhfadjajcmkaaGreatDoor
