/- What Load tells; its six rows of numbers while they are made. -/
import Derived.Maps.AppendAt
import Derived.Test.YtefhfadjajcmkaaGreatDoorHB
import Derived.Test.YtefhfadjajcmkaaGreatDoorHC
set_option linter.unusedVariables false
set_option linter.unusedSimpArgs false
namespace Go.Proofs.YtefhfadjajcmkaaGreatDoor
open Go Go.RowKit Go.Maps
open Go.Lib (cell_of_heap)
theorem mv_ {w0 w w':World} {S:Nat->Prop} (hb:Below w0.heap.size w0 w) (a:Turn S w w') (d:∀b,S b->w0.heap.size<=b):Below w0.heap.size w0 w':=
 hb.trans ⟨a.os,a.tape,a.output,a.size,λk e=>a.block k (Nat.lt_of_lt_of_le e hb.size) (λh=>by have:=d k h;omega)⟩
structure fx_ {α : Type} (sz:Nat) (R:α -> Array Value->Prop):Prop where
 size:∀{x:α} {c:Array Value},R x c->c.size=sz
 one:∀{x:α} {c:Array Value},R x c->∀u∈c.toList,u.oneCell'=true
abbrev ofP {α : Type} (R:α -> Array Value->Prop):bi_ α:=λ_ _ x c=>R x c
theorem ofP.good {α : Type} (R:α -> Array Value->Prop):(ofP R).Good:=⟨λh _=>h,λh _=>h⟩
def cg_ {α : Type} (E:TypeId) (sz:Nat) (R:α -> Array Value->Prop) (w:World) (l:List α) (v:Value):Prop:=
 ∃cs:Nat->Array Value,w.ownsRow 0 E sz v l.length (I_ cs l.length)/\∀i x,l[i]?=some x->R x (cs i)
section
variable {α : Type} {E:TypeId} {sz:Nat} {R:α -> Array Value->Prop} {w w':World} {F:Nat->Prop} {l l2:List α} {v:Value} {A:Option Addr} {n:Nat}
theorem cg_.nil (E:TypeId) (sz:Nat) (R:α -> Array Value->Prop) (w:World):cg_ E sz R w [] (.slice none 0 0):=⟨λ_=>#[],World.ownsRow_nil _ _ _ _,λi x a=>by simp at a⟩
theorem cg_.turn (h:cg_ E sz R w l v) {S:Nat->Prop} (f:Turn S w w') (d:∀b,v.ownBlock=some b->¬S b):cg_ E sz R w' l v:=by obtain⟨cs,a,e⟩:=h;exact⟨cs,f.owns a d,e⟩
theorem cg_.lt (h:cg_ E sz R w l v) {b:Nat} (hb:v.ownBlock=some b):b<w.heap.size:=by obtain⟨cs,a,f⟩:=h;obtain⟨e,d⟩:=di_ a hb;exact b_ d
theorem cg_.on (h:cg_ E sz R w l v) (hb:Below w.heap.size w w'):cg_ E sz R w' l v:=
 h.turn (Turn.of_below hb) λb a e=>by have e:w.heap.size<=b:=e;have:=h.lt a;omega
theorem cg_.form (h:cg_ E sz R w l v):∃A a,v = .slice A l.length a/\l.length<=a/\(A=none->a=0):=by
 obtain⟨cs,b,_⟩:=h;rcases b.2 with⟨h0,h1⟩ | ⟨g,d,e,h0,_,_,h1,_⟩
 ·exact⟨none,0,by rw[h0,h1],by omega,λ_=>rfl⟩
 ·exact⟨_,d,h0,h1,λh=>by cases h⟩
theorem cg_.rd {d:Nat} (t:fx_ sz R) (h:cg_ E sz R w l (.slice A n d)) (u:∀b,(Value.slice A n d).ownBlock=some b->F b) (e:l.length=n):SRd sz (ofP R) w F l A n:=by
 obtain⟨cs,a,q⟩:=h;subst e;refine⟨rfl,λe=>?_⟩;obtain⟨g,y,f,_,_⟩:=a.form e;injection f with f _ hcp;subst f;subst hcp;have k:∀i,i<l.length->(cs i).size=sz:=λi hi=>t.size (q i _ (List.getElem?_eq_getElem hi));refine⟨⟨g,0,none⟩,rfl,u g rfl,λi x o=>?_⟩;have hi:=b8_ o;refine⟨cs i,k i hi,λj r=>?_,q i x o⟩;have p:i*sz+j<l.length*sz:=by have h1:(i+1)*sz<=l.length*sz:=Nat.mul_le_mul_right sz (by omega);rw[Nat.succ_mul]at h1;omega
 have h1:=a.cellAt (i*sz+j) p;rw[az_ k hi r]at h1;rw[Addr.add_mid,Nat.zero_add];exact h1
theorem SRd.part (h:SRd sz (ofP R) w F l A n) {lo hi:Nat} (h1:lo<=hi) (r:hi<=n):SRd sz (ofP R) w F ((l.drop lo).take (hi-lo)) (A.map (·.add (lo*sz))) (hi-lo):=by refine⟨by rw[List.length_take,List.length_drop,<-h.1];omega,λq=>?_⟩;obtain⟨ad,e,o,g⟩:=h.2 (by omega);refine⟨ad.add (lo*sz),by rw[e];rfl,by rw[block_of_add];exact o,λi x a=>?_⟩;have b:=(List.getElem?_eq_some_iff.1 a).1;rw[List.length_take]at b;rw[List.getElem?_take_of_lt (by omega),List.getElem?_drop]at a;obtain⟨c,p,d,k⟩:=g _ _ a;refine⟨c,p,λj f=>?_,k⟩;rw[add_of_add,<-d j f,Nat.add_mul,Nat.add_assoc]
theorem SRd.cells {ad:Addr} (o:fx_ sz R) (h:SRd sz (ofP R) w F l (some ad) n):∃cs:Nat->Array Value,(∀i x,l[i]?=some x->R x (cs i))/\∀j u,(I_ cs n)[j]?=some u->w.cell? (ad.add j)=some u:=by
 classical
 have a:∀i,∃c:Array Value,∀x,l[i]?=some x->R x c/\∀j,j<sz->w.cell? (ad.add (i*sz+j))=c[j]?:=λi=>by
  cases hi:l[i]? with
  | none=>exact⟨#[],λx h=>by cases h⟩
  | some x=>
   obtain⟨r,c,e,_,h1,p,q⟩:=h.at_ hi;injection e with e;subst e;exact⟨c,λy d=>by injection d with d;subst d;exact⟨q,p⟩⟩
 refine⟨λi=>(a i).choose,λi x hi=>((a i).choose_spec x hi).1,λj u b=>?_⟩;have g:∀i,i<n->((a i).choose).size=sz:=λi hi=>o.size ((a i).choose_spec _ (List.getElem?_eq_getElem (by rw[<-h.1];exact hi))).1;have k:=(List.getElem?_eq_some_iff.1 b).1;rw[al_ g]at k;rcases Nat.eq_zero_or_pos sz with h0 | h0
 ·subst h0;omega
 ·have hi:j / sz<n:=(Nat.div_lt_iff_lt_mul h0).2 k;have f:j % sz<sz:=Nat.mod_lt _ h0;have e:j=(j / sz)*sz+j % sz:=by rw[Nat.mul_comm];exact (Nat.div_add_mod j sz).symm
  rw[e,az_ g hi f]at b;rw[e,((a _).choose_spec _ (List.getElem?_eq_getElem (by rw[<-h.1];exact hi))).2 _ f];exact b
theorem A9_ (cs ds:Nat->Array Value) (n m:Nat):I_ cs n++I_ ds m=I_ (λi=>if i<n then cs i else ds (i-n)) (n+m):=by
 induction m with
 | zero=>
  rw[Nat.add_zero,show I_ ds 0=[] from rfl,List.append_nil];exact gd_ λi hi=>(if_pos hi).symm
 | succ m a=>
  rw[c8_,<-List.append_assoc,a,<-Nat.add_assoc,c8_];congr 2
  rw[if_neg (by omega),Nat.add_sub_cancel_left]
end
theorem Ba_ {α : Type} {P:Program} {E:TypeId} {sz bytes:Nat} {R:α -> Array Value->Prop} (p:fx_ sz R) (t ty:TypeId) (i:TypeInfo) (z:Value) (J:P.underlying t=some (.slice E)) (hi:P.info? E=some i) (hz:i.zero=some z)
    (f:i.size=sz) (L:i.bytes=bytes) (G:z.cells.size=sz) (D:0<sz) {w:World} {F:Nat->Prop} {l l2:List α} {v:Value} {A:Option Addr} {n m c:Nat} (h:cg_ E sz R w l v) (U:l.length=n) (y:SRd sz (ofP R) w F l2 A m) (hc:A=none->c=0)
    (C:n+m<=1000000000) (I:bytes<=100000) :
    ∃b w',(Builtin.append_ #[t,t] ty #[v,.slice A m c]).run P w = .ok b w'/\cg_ E sz R w' (l++l2) b/\w.grownBy w' v.ownBlock/\(b.ownBlock=v.ownBlock\/b.ownBlock=some w.heap.size):=by
 subst U;obtain⟨cs,a,M⟩:=h;have W:m=l2.length:=y.1
 cases A with
 | none=>
  have h0:m=0:=by
   rcases Nat.eq_zero_or_pos m with h | h
   ·exact h
   ·obtain⟨_,e,_⟩:=y.2 h;cases e
  have Z:l2=[]:=List.eq_nil_of_length_eq_zero (by omega);subst Z;rw[hc rfl,h0];refine⟨v,w,run_append_owned_none (P:=P) (w:=w) 0 t ty E i sz J hi v _ _ a,?_,⟨rfl,rfl,rfl,Nat.le_refl _,λ_ _ _=>rfl⟩,.inl rfl⟩;rw[List.append_nil];exact⟨cs,a,M⟩
 | some ad=>
  obtain⟨ds,r,k⟩:=y.cells p;have Y:∀i,i<m->(ds i).size=sz:=λi hi=>p.size (r i _ (List.getElem?_eq_getElem (by omega)))
  have q:∀u∈I_ ds m,u.oneCell'=true:=λu g=>by
   unfold I_ at g;obtain⟨i,hi,g⟩:=List.mem_flatMap.1 g;rw[List.mem_range]at hi;exact p.one (r i _ (List.getElem?_eq_getElem (by omega))) u g
  have d:(l.length+m)*bytes<=140737488355328:=Nat.le_trans (Nat.mul_le_mul C I) (by decide);obtain⟨b,w',h1,V,O,_,X⟩:=run_append_own_at (P:=P) w 0 t ty E i z sz bytes J hi hz f L G D v l.length _ a ad m c (I_ ds m) (al_ Y) k q (by unfold maxLen;omega) d (Nat.zero_le _);refine⟨b,w',h1,⟨λi=>if i<l.length then cs i else ds (i-l.length),?_,λi x o=>?_⟩,O,X⟩
  ·rw[List.length_append,<-W,<-A9_];exact V
  ·dsimp only;split
   ·rename_i B;rw[List.getElem?_append_left B]at o;exact M i x o
   ·rename_i a0;rw[List.getElem?_append_right (by omega)]at o;exact r _ x o
theorem E7_ {α : Type} {P:Program} {E:TypeId} {sz bytes:Nat} {R:α -> Array Value->Prop} (q:fx_ sz R) {op:Oper} {a:Act} {K:Act->World->Prop} {Q:Exit->Act->World->Prop} (s x:Operand) (t:TypeId) (B:op.op = .call { callee:=.builtin .append,args:=#[s,x],argTypes:=#[t,t] })
    (i:TypeInfo) (z:Value) (D:P.underlying t=some (.slice E)) (hi:P.info? E=some i) (hz:i.zero=some z)
    (d:i.size=sz) (o:i.bytes=bytes) (g:z.cells.size=sz) (f:0<sz) {w:World} {F:Nat->Prop} {l l2:List α} {v:Value} {A:Option Addr} {n m c:Nat} (y:a.eval s=v) (h:cg_ E sz R w l v) (r:l.length=n) (I:a.eval x = .slice A m c) (J:SRd sz (ofP R) w F l2 A m) (L:A=none->c=0)
    (e:n+m<=1000000000) (k:bytes<=100000)
    (C:∀b w',cg_ E sz R w' (l++l2) b->w.grownBy w' v.ownBlock->(b.ownBlock=v.ownBlock\/b.ownBlock=some w.heap.size)->K (a.put op.dst b) w'):op.wp P a w K Q:=by
 obtain⟨b,w',h1,u,p,G⟩:=Ba_ (P:=P) q t op.type i z D hi hz d o g f h r J L e k;unfold Oper.wp execOp;simp only[B,resolve,invoke,builtin,Sem.run_bind,Sem.run_pure,Result.andThen_ok,List.map_toArray,List.map_cons,List.map_nil,y,I,h1];exact C b w' u p G
theorem k6_ {α : Type} {P:Program} {E:TypeId} {sz bytes:Nat} {R:α -> Array Value->Prop} (u:fx_ sz R) {e:Array Oper} {rest:List Oper} {op:Oper} {a:Act} {Q:Exit->Act->World->Prop} (k:op.guard=none) (s x:Operand) (t:TypeId) (G:op.op = .call { callee:=.builtin .append,args:=#[s,x],argTypes:=#[t,t] })
    (i:TypeInfo) (z:Value) (J:P.underlying t=some (.slice E)) (hi:P.info? E=some i) (hz:i.zero=some z)
    (d:i.size=sz) (q:i.bytes=bytes) (o:z.cells.size=sz) (g:0<sz) {w:World} {F:Nat->Prop} {l l2:List α} {v:Value} {A:Option Addr} {n m c:Nat} (D:a.eval s=v) (h:cg_ E sz R w l v) (y:l.length=n) (L:a.eval x = .slice A m c) (M:SRd sz (ofP R) w F l2 A m) (O:A=none->c=0)
    (f:n+m<=1000000000) (p:bytes<=100000)
    (I:∀b w',cg_ E sz R w' (l++l2) b->w.grownBy w' v.ownBlock->(b.ownBlock=v.ownBlock\/b.ownBlock=some w.heap.size)->wpList P e Q rest (a.put op.dst b) w'):wpList P e Q (op::rest) a w:=
 wpList_plain k λ_ C=>E7_ u s x t G i z J hi hz d q o g D h y L M O f p λb w' h1 B r=>C _ _ (I b w' h1 B r)
theorem E8_ {α : Type} {sz:Nat} {R:α -> Array Value->Prop} (d:fx_ sz R) {x:α} {c:Array Value} (h:R x c) (w:World) (T:TypeId):SRd sz (ofP R) (w.alloc (.cells c T)) (λb=>b=w.heap.size) [x] (some ⟨w.heap.size,0,none⟩) 1:=
 ⟨rfl,λ_=>⟨_,rfl,rfl,λi y a=>by
  have hi:i=0:=by have:=(List.getElem?_eq_some_iff.1 a).1;simp at this;omega
  subst hi;simp at a;subst a;refine⟨c,d.size h,λj e=>?_,h⟩;rw[Addr.add_mid,Nat.zero_mul,Nat.zero_add,Nat.zero_add];exact cell_of_row _ _ _ _ _ _ (heap_alloc_new w _)⟩⟩
theorem ep_ {α : Type} {P:Program} {E:TypeId} {sz bytes:Nat} {R:bi_ α} (W:R.Good) {op:Oper} {a:Act} {K:Act->World->Prop} {Q:Exit->Act->World->Prop} (s x:Operand) (t:TypeId) (ho:op.op = .call { callee:=.builtin .append,args:=#[s,x],argTypes:=#[t,t] })
    (z:Value) (ht:P.underlying t=some (.slice E)) (hi:(P.info? E).map (λi=>(i.zero,i.size,i.bytes))=some (some z,sz,bytes)) (D:z.cells.size=sz) (p:0<sz) (J:bytes<=1000)
    {wr:World} {F G:Nat->Prop} {L:List α} {S:Value} {el:α} {c:Array Value} {n:Nat} (hS:a.eval s=S) (o:x_ E sz R wr F L S) (Z:L.length=n) (hx:a.eval x = .slice (some ⟨wr.heap.size,0,none⟩) 1 1) (hc:R wr G el c) (k:c.size=sz) (q:∀u∈c.toList,u.oneCell'=true) (a0:n<=1000000000) (hF:∀b,F b->b<wr.heap.size) (hG:∀b,G b->b<wr.heap.size) (I:∀b,G b->S.ownBlock≠some b)
    (h:∀g f w',x_ E sz R w' (λb=>F b\/G b\/b=g) (L++[el]) (.slice (some ⟨g,0,none⟩) (n+1) f)->wr.grownBy w' S.ownBlock->(S.ownBlock=some g\/wr.heap.size<=g)->g<w'.heap.size->K (a.put op.dst (.slice (some ⟨g,0,none⟩) (n+1) f)) w') :
    op.wp P a (wr.alloc (.cells c E)) K Q:=by
 subst Z;obtain⟨i0,hi,r,O,B⟩:=info_parts hi;obtain⟨cs,d,h6,U,hr⟩:=o;have M:(L.length+1)*bytes<=140737488355328:=Nat.le_trans (Nat.mul_le_mul (show L.length+1<=1000000001 by omega) J) (by decide);refine wp_append_lies _ s x t ho 0 E i0 z sz bytes ht hi r O B D p S L.length (I_ cs L.length) hS (d.alloc _) ⟨wr.heap.size,0,none⟩ 1 1 c.toList hx (by rw[Array.length_toList,k,Nat.one_mul]) (World.news_of_block (heap_alloc_new wr _)) q (by omega) (by unfold maxLen;omega) M (Nat.zero_le _) (wr.heap.size+1) (by simp) λg f w' h1 h2 X V=>?_;have y:=aa_ h2;have C:S.ownBlock=some g\/wr.heap.size<=g:=X.imp id (λe=>by rw[e];omega);exact h g f w' (x_.snoc (x:=el) (c:=c) (G:=G) W ⟨cs,d,h6,U,hr⟩ hc k I hF hG (λa1 Y=>by rw[s5_ Y d];exact h1) y C) y C V
theorem k7_ {α : Type} {P:Program} {E:TypeId} {sz bytes:Nat} {R:bi_ α} (I:R.Good) {e:Array Oper} {rest:List Oper} {op:Oper} {a:Act} {Q:Exit->Act->World->Prop} (q:op.guard=none) (s x:Operand) (t:TypeId) (U:op.op = .call { callee:=.builtin .append,args:=#[s,x],argTypes:=#[t,t] })
    (z:Value) (X:P.underlying t=some (.slice E)) (hi:(P.info? E).map (λi=>(i.zero,i.size,i.bytes))=some (some z,sz,bytes)) (y:z.cells.size=sz) (o:0<sz) (C:bytes<=1000)
    {wr:World} {F G:Nat->Prop} {L:List α} {S:Value} {el:α} {c:Array Value} {n:Nat} (W:a.eval s=S) (k:x_ E sz R wr F L S) (O:L.length=n) (Z:a.eval x = .slice (some ⟨wr.heap.size,0,none⟩) 1 1) (hc:R wr G el c) (r:c.size=sz) (p:∀u∈c.toList,u.oneCell'=true) (f:n<=1000000000) (Y:∀b,F b->b<wr.heap.size) (V:∀b,G b->b<wr.heap.size) (B:∀b,G b->S.ownBlock≠some b)
    (h:∀g d w',x_ E sz R w' (λb=>F b\/G b\/b=g) (L++[el]) (.slice (some ⟨g,0,none⟩) (n+1) d)->wr.grownBy w' S.ownBlock->(S.ownBlock=some g\/wr.heap.size<=g)->g<w'.heap.size->wpList P e Q rest (a.put op.dst (.slice (some ⟨g,0,none⟩) (n+1) d)) w') :
    wpList P e Q (op::rest) a (wr.alloc (.cells c E)):=
 wpList_plain q λ_ M=>ep_ I s x t U z X hi y o C W k O Z hc r p f Y V B λg d w' h1 h2 J D=>M _ _ (h g d w' h1 h2 J D)
theorem Kl_ {α : Type} {sz:Nat} {R:α -> Array Value->Prop} (a:fx_ sz R) {x y:α} {c d:Array Value} (h:R x c) (k:R y d) (w:World) (T:TypeId):SRd sz (ofP R) (w.alloc (.cells (c++d) T)) (λb=>b=w.heap.size) [x,y] (some ⟨w.heap.size,0,none⟩) 2:=by obtain⟨A,g,e,_,f⟩:=gf_ (R:=ofP R) (F:=λb=>b=w.heap.size) (heap_alloc_new w (.cells (c++d) T)) (a.size h) (a.size k) rfl h k;injection e with e;rw[<-e]at f;exact f
abbrev CV6:h_->Array Value->Prop:=λv c=>Y_ v/\a9_ v/\∃A cap,c=c_ v (.slice A 0 cap)
theorem i8_:fx_ 6 CV6:=⟨fun⟨_,_,A,cap,e⟩=>by rw[e];rfl,fun⟨h1,h2,A,cap,e⟩ u hu=>by
 have:=vg_ ⟨_,.slice A 0 cap,h1,h2,⟨A,cap,rfl⟩⟩ u;unfold ve_ at this;rw[e]at hu;exact this hu⟩
theorem Bb_ {w:World} {l:List h_} {s:Value} (h:cg_ 39 6 CV6 w l s):x_ 39 6 vd_ w (λb=>s.ownBlock=some b) l s:=by obtain⟨cs,a,d⟩:=h;exact⟨cs,a,λi hi=>i8_.size (d i _ (List.getElem?_eq_getElem hi)),λg e=>e,λi x f=>d i x f⟩
theorem Bc_ {w:World} {F:Nat->Prop} {l:List h_} {s:Value} (h:x_ 39 6 vd_ w F l s):cg_ 39 6 CV6 w l s:=by obtain⟨cs,a,_,_,b⟩:=h;exact⟨cs,a,λi x d=>b i x d⟩
theorem Bd_:(Tryz.prog.info? 39).map (λi=>(i.zero,i.size,i.bytes))=some (some (.agg #[.int .i64 0,.bool false,.int .i64 0,.string ⟨#[]⟩,.string ⟨#[]⟩,.slice none 0 0]),6,80):=by kernel_rfl
theorem i9_:(Tryz.prog.info? 72).map (λi=>(i.zero,i.size,i.bytes))=some (some (.agg #[.int .i64 0,.slice none 0 0,.slice none 0 0]),3,56):=by kernel_rfl
theorem Be_:(Tryz.prog.info? 74).map (λi=>(i.zero,i.size,i.bytes))=some (some (.agg #[.int .i64 0,.int .i64 0,.int .i64 0,.string ⟨#[]⟩,.slice none 0 0]),5,64):=by kernel_rfl
theorem E9_ (k a e b p a5 h o i g f d:Value) (w:World):(Instr.buildSlice 37 2 #[(0,.agg #[k,a,e,b,p,a5]),(1,.agg #[h,o,i,g,f,d])]).run Tryz.prog w = .ok (.slice (some ⟨w.heap.size,0,none⟩) 2 2) (w.alloc (.cells (#[k,a,e,b,p,a5]++#[h,o,i,g,f,d]) 39)):=by kernel_rfl
theorem H9_ (c d:Array Value) (a:c.size=6) (b:d.size=6) (w:World):(Instr.buildSlice 37 2 #[(0,.agg c),(1,.agg d)]).run Tryz.prog w = .ok (.slice (some ⟨w.heap.size,0,none⟩) 2 2) (w.alloc (.cells (c++d) 39)):=by
 cases c with
 | mk l=>
  cases d with
  | mk m=>
   match l,a,m,b with
   | [a0,a1,a2,a3,a4,a5],_,[b0,b1,b2,b3,b4,b5],_=>exact E9_ a0 a1 a2 a3 a4 a5 b0 b1 b2 b3 b4 b5 w
theorem k8_ (a L P:Value) (w:World):(Instr.buildSlice 51 1 #[(0,.agg #[a,L,P])]).run Tryz.prog w = .ok (.slice (some ⟨w.heap.size,0,none⟩) 1 1) (w.alloc (.cells #[a,L,P] 72)):=by kernel_rfl
theorem Fa_ (a b c d e:Value) (w:World):(Instr.buildSlice 52 1 #[(0,.agg #[a,b,c,d,e])]).run Tryz.prog w = .ok (.slice (some ⟨w.heap.size,0,none⟩) 1 1) (w.alloc (.cells #[a,b,c,d,e] 74)):=by kernel_rfl
def cu_ (D:List h_):List i_:=D.mapIdx λi v=>E_ (i:Nat) v
theorem ir_ (D:List h_) (v:h_):cu_ (D++[v])=cu_ D++[E_ (D.length:Nat) v]:=by unfold cu_;rw[List.mapIdx_append];simp
theorem j8_ (D:List h_):(cu_ D).length=D.length:=by unfold cu_;simp
noncomputable def fy_ (D:List h_) (T:List d_):List l_:=T.mapIdx λi t=>⟨(i:Nat),a6_ D t.s,a6_ D t.o,t.p.text,[]⟩
theorem vk_ (D:List h_) (T:List d_) (t:d_):fy_ D (T++[t])=fy_ D T++[⟨(T.length:Nat),a6_ D t.s,a6_ D t.o,t.p.text,[]⟩]:=by unfold fy_;rw[List.mapIdx_append];simp
theorem xo_ (D:List h_) (T:List d_):(fy_ D T).length=T.length:=by unfold fy_;simp
theorem Ia_ (T:List d_):aj_ T=⟨cu_ (J_ T),fy_ (J_ T) T⟩:=rfl
structure GnM (w2:World) (m zg:Nat) (ns:List i_) (N:Value) (wx:World):Prop where
 t:Turn (λi=>i=m\/zg<=i) w2 wx
 box:wx.heap[zg]?=some (.cells #[N,.slice none 0 0] 54 (0,0))
 own:x_ 72 3 NoR wx (λb=>zg<b/\b<wx.heap.size) ns N
 hm:m<zg
section
variable {w2 wx w':World} {m zg:Nat} {ns:List i_} {N N':Value} {es:List l_} {E E':Value}
theorem GnM.on (h:GnM w2 m zg ns N wx) (hb:Below wx.heap.size wx w'):GnM w2 m zg ns N w':=
 ⟨h.t.trans (Turn.ofB hb),(hb.block zg (b_ h.box)).trans h.box,(h.own.turn NoR.good (Turn.of_below hb) (λb hb=>hb.2) (λb hb e=>by have e:wx.heap.size<=b:=e;have:=hb.2;omega)).mono NoR.good (λb k=>⟨k.1,Nat.lt_of_lt_of_le k.2 hb.size⟩),h.hm⟩
theorem GnM.map (h:GnM w2 m zg ns N wx) (a:Turn (λi=>i=m) wx w'):GnM w2 m zg ns N w':=by have hm:=h.hm;exact⟨h.t.trans (a.mono λi _ e=>.inl e),(a.block zg (b_ h.box) (λe=>by have e:zg=m:=e;omega)).trans h.box,(h.own.turn NoR.good a (λb hb=>hb.2) (λb hb e=>by have e:b=m:=e;have:=hb.1;omega)).mono NoR.good (λb k=>⟨k.1,Nat.lt_of_lt_of_le k.2 a.size⟩),h.hm⟩
theorem GnM.blk (h:GnM w2 m zg ns N wx) {b:Nat} (hb:N.ownBlock=some b):zg<b/\b<wx.heap.size:=by obtain⟨_,_,_,a,_⟩:=h.own;exact a b hb
theorem GnM.more {w5:World} {g n a:Nat} {p:i_} {G:Nat->Prop} (h:GnM w2 m zg ns N wx) (o:∀b,G b->zg<b/\b<wx.heap.size) (f:wx.grownBy w5 N.ownBlock) (u:N.ownBlock=some g\/wx.heap.size<=g) (y:g<w5.heap.size)
    (r:x_ 72 3 NoR w5 (λb=>(zg<b/\b<wx.heap.size)\/G b\/b=g) (ns++[p]) (.slice (some ⟨g,0,none⟩) n a))
    (q:w'.heap[zg]?=some (.cells #[.slice (some ⟨g,0,none⟩) n a,.slice none 0 0] 54 (0,0))) (d:Turn (λb=>b=zg) w5 w'):GnM w2 m zg (ns++[p]) (.slice (some ⟨g,0,none⟩) n a) w':=by
 have hb:=b_ h.box;refine⟨(h.t.trans ((Turn.of_grown f).mono λi _ e=>.inr (Nat.le_of_lt (h.blk e.symm).1))).trans (d.mono λi _ e=>.inr (Nat.le_of_eq (show zg=i from Eq.symm e))),q,?_,h.hm⟩
 have x:zg<g:=by
  rcases u with e | e
  ·exact (h.blk e).1
  ·omega
 refine (r.turn NoR.good d (λb k=>?_) (λb k e=>?_)).mono NoR.good λb k=>?_
 ·have:=f.size;rcases k with k | k | k
  ·omega
  ·have:=o b k;omega
  ·omega
 ·have e:b=zg:=e;rcases k with k | k | k
  ·omega
  ·have:=o b k;omega
  ·omega
 ·have:=f.size;have:=d.size;rcases k with k | k | k
  ·omega
  ·have:=o b k;omega
  ·omega
end
structure GeM (w3:World) (zg ze:Nat) (ns:List i_) (N:Value) (es:List l_) (E:Value) (wx:World):Prop where
 t:Turn (λi=>i=zg\/ze<=i) w3 wx
 box:wx.heap[zg]?=some (.cells #[N,E] 54 (0,0))
 nodes:x_ 72 3 NoR wx (λb=>zg<b/\b<ze) ns N
 own:x_ 74 5 EdR wx (λb=>ze<=b/\b<wx.heap.size) es E
 lt:zg<ze/\ze<=wx.heap.size
section
variable {w2 w3 wx w':World} {m zg ze:Nat} {ns:List i_} {N N':Value} {es:List l_} {E E':Value}
theorem GnM.next (h:GnM w2 m zg ns N wx):GeM wx zg wx.heap.size ns N [] (.slice none 0 0) wx:=⟨Turn.refl _ _,h.box,h.own,x_.nil ..,b_ h.box,Nat.le_refl _⟩
theorem GeM.on (h:GeM w3 zg ze ns N es E wx) (hb:Below wx.heap.size wx w'):GeM w3 zg ze ns N es E w':=by
 have a:=h.lt
 exact⟨h.t.trans (Turn.ofB hb),(hb.block zg (b_ h.box)).trans h.box,h.nodes.turn NoR.good (Turn.of_below hb) (λb k=>by omega) (λb k e=>by have e:wx.heap.size<=b:=e;omega),
  (h.own.turn EdR.good (Turn.of_below hb) (λb hb=>hb.2) (λb hb e=>by have e:wx.heap.size<=b:=e;have:=hb.2;omega)).mono EdR.good (λb k=>⟨k.1,Nat.lt_of_lt_of_le k.2 hb.size⟩),a.1,Nat.le_trans a.2 hb.size⟩
theorem GeM.blk (h:GeM w3 zg ze ns N es E wx) {b:Nat} (hb:E.ownBlock=some b):ze<=b/\b<wx.heap.size:=by obtain⟨_,_,_,a,_⟩:=h.own;exact a b hb
theorem GeM.more {w5:World} {g n a:Nat} {r:l_} {G:Nat->Prop} (h:GeM w3 zg ze ns N es E wx) (f:∀b,G b->ze<=b/\b<wx.heap.size) (q:wx.grownBy w5 E.ownBlock) (y:E.ownBlock=some g\/wx.heap.size<=g) (C:g<w5.heap.size)
    (x:x_ 74 5 EdR w5 (λb=>(ze<=b/\b<wx.heap.size)\/G b\/b=g) (es++[r]) (.slice (some ⟨g,0,none⟩) n a))
    (u:w'.heap[zg]?=some (.cells #[N,.slice (some ⟨g,0,none⟩) n a] 54 (0,0))) (d:Turn (λb=>b=zg) w5 w'):GeM w3 zg ze ns N (es++[r]) (.slice (some ⟨g,0,none⟩) n a) w':=by
 have hb:=b_ h.box;have o:=h.lt;have D:=q.size;have B:=d.size
 have z:ze<=g:=by
  rcases y with e | e
  ·exact (h.blk e).1
  ·omega
 have p:Turn (λi=>i=zg\/ze<=i) wx w':=((Turn.of_grown q).mono λi _ e=>.inr (h.blk e.symm).1).trans (d.mono λi _ e=>.inl e);refine⟨h.t.trans p,u,h.nodes.turn NoR.good p (λb k=>by omega) (λb k e=>by rcases e with e | e<;>omega),?_,o.1,by omega⟩
 refine (x.turn EdR.good d (λb k=>?_) (λb k e=>?_)).mono EdR.good λb k=>?_
 ·rcases k with k | k | k
  ·omega
  ·have:=f b k;omega
  ·omega
 ·have e:b=zg:=e;rcases k with k | k | k
  ·omega
  ·have:=f b k;omega
  ·omega
 ·rcases k with k | k | k
  ·omega
  ·have:=f b k;omega
  ·omega
end
structure ni_ (F:Nat->Prop) (w:World) (cs:Nat->Array Value) (T:List d_) (S:Value):Prop where
 el:ElT T cs
 form:∃A cap,S = .slice A T.length cap/\T.length<=cap/\(0<T.length->∃r,A=some ⟨r,0,none⟩/\F r/\∀a,a<T.length->∀j,j<18->w.cell? ⟨r,a*18+j,none⟩=(cs a)[j]?)
def nj_ (F:Nat->Prop) (w:World) (ix:List Nat) (s:Value):Prop:=
 ∃A b,s = .slice A ix.length b/\ix.length<=b/\(0<ix.length->∃r o,A=some ⟨r,o,none⟩/\F r/\∀a k,ix[a]?=some k->w.cell? ⟨r,o+a,none⟩=some (.int .i64 (k:Nat)))
section
variable {F F':Nat->Prop} {w w':World} {cs:Nat->Array Value} {T:List d_} {S s:Value} {ix:List Nat}
theorem ni_.keep (h:ni_ F w cs T S) (t:∀p:Addr,F p.block->w'.cell? p=w.cell? p):ni_ F w' cs T S:=by obtain⟨h0,A,b,e,h1,k⟩:=h;refine⟨h0,A,b,e,h1,λf=>?_⟩;obtain⟨r,g,d,q⟩:=k f;exact⟨r,g,d,λa o j i=>(t ⟨r,a*18+j,none⟩ d).trans (q a o j i)⟩
theorem ni_.mono (h:ni_ F w cs T S) (i:∀b,F b->F' b):ni_ F' w cs T S:=by obtain⟨h0,A,a,e,h1,f⟩:=h;refine⟨h0,A,a,e,h1,λk=>?_⟩;obtain⟨r,d,o,g⟩:=f k;exact⟨r,d,i _ o,g⟩
theorem nj_.keep (h:nj_ F w ix s) (u:∀p:Addr,F p.block->w'.cell? p=w.cell? p):nj_ F w' ix s:=by obtain⟨A,d,e,h1,q⟩:=h;refine⟨A,d,e,h1,λg=>?_⟩;obtain⟨r,o,i,f,t⟩:=q g;exact⟨r,o,i,f,λa k b=>(u ⟨r,o+a,none⟩ f).trans (t a k b)⟩
theorem nj_.mono (h:nj_ F w ix s) (k:∀b,F b->F' b):nj_ F' w ix s:=by obtain⟨A,a,e,h1,g⟩:=h;refine⟨A,a,e,h1,λd=>?_⟩;obtain⟨r,o,f,p,i⟩:=g d;exact⟨r,o,f,k _ p,i⟩
end
structure ja_ (F:Nat->Prop) (w:World) (c:Nat) (T:List d_):Prop where
 cells:∃(S:Value) (ss:Nat->Value) (cs:Nat->Array Value),w.heap[c]?=some (.cells #[S,ss 0,ss 1,ss 2,ss 3,ss 4,ss 5] 97 (0,0))/\ni_ F w cs T S/\∀j,j<6->∃ix:List Nat,l8_ (av_ j) T ix/\nj_ F w ix (ss j)
 fc:F c
 scal:∀t,t∈T->ce_ t
 fit:∀t,t∈T->∀n,a9_ (t.get n)
 rise:j2_ (A_ (av_ 0)) T
 len:T.length<=65536
theorem ja_.keep {F:Nat->Prop} {w w':World} {c:Nat} {T:List d_} (h:ja_ F w c T) (d:∀b,F b->w'.heap[b]?=w.heap[b]?):ja_ F w' c T:=by obtain⟨S,ss,cs,h1,g,i⟩:=h.cells;refine⟨⟨S,ss,cs,(d c h.fc).trans h1,g.keep λp a=>World.cell?_of_block (d _ a),λj e=>?_⟩,h.fc,h.scal,h.fit,h.rise,h.len⟩;obtain⟨ix,k,f⟩:=i j e;exact⟨ix,k,f.keep λp a=>World.cell?_of_block (d _ a)⟩
def k9_ (L:List d_) (w:World) (e:Ending) (w':World):Prop:=
 (¬(L.length<=65536/\L.all dh_=true)/\e = .returned (.tuple #[.pointer none,.int .i64 20])/\Below w.heap.size w w') \/
 (L.length<=65536/\L.all dh_=true/\∃c,e = .returned (.tuple #[.pointer (some ⟨c,0,none⟩),.int .i64 0])/\Below w.heap.size w w'/\ja_ (λb=>w.heap.size<=b/\b<w'.heap.size) w' c (bb_ (A_ (av_ 0)) L))
def Ib_ (ss:Nat->Value) (j:Nat) (v:Value):Nat->Value:=λi=>if i=j then v else ss i
theorem s7_ (z j:Nat) (a:j<6) (w:World):(Instr.indexAt 95 (.pointer (some ⟨z,1,none⟩)) (.int .i64 (j:Nat))).run Tryz.prog w = .ok (.pointer (some ⟨z,1+j,none⟩)) w:=by rcases (show j=0\/j=1\/j=2\/j=3\/j=4\/j=5 by omega) with rfl | rfl | rfl | rfl | rfl | rfl<;>kernel_rfl
section
variable {w0 wx w':World} {c:Nat} {S:Value} {ss:Nat->Value}
theorem LdM.cellJ (h:LdM w0 c S ss wx) {j:Nat} (a:j<6):wx.cell? ⟨c,1+j,none⟩=some (ss j):=by rcases (show j=0\/j=1\/j=2\/j=3\/j=4\/j=5 by omega) with rfl | rfl | rfl | rfl | rfl | rfl<;>exact cell_of_heap h.pc _
theorem LdM.setJ (h:LdM w0 c S ss wx) {j:Nat} (f:j<6) (v:Value):LdM w0 c S (Ib_ ss j v) (wx.setCell ⟨c,1+j,none⟩ v):=by have a:=(Turn.refl (λb=>b=c) wx).setCell (p:=⟨c,1+j,none⟩) (.inr rfl) v;refine⟨h.hb.trans ⟨a.os,a.tape,a.output,a.size,λk d=>a.block k (Nat.lt_of_lt_of_le d h.hb.size) (λe=>by have:=h.c0;omega)⟩,h.c0,a.heap h.ph (by show ¬c+1=c;omega),?_⟩;rcases (show j=0\/j=1\/j=2\/j=3\/j=4\/j=5 by omega) with rfl | rfl | rfl | rfl | rfl | rfl<;>exact heap_setCell_same wx c _ _ _ v h.pc
end
structure eq_ (c:Nat) (s:Value) (ix:List Nat) (wx:World):Prop where
 row:wx.ownsRow 0 3 1 s ix.length (ixC ix)
 blk:∀b,s.ownBlock=some b->c+2<=b/\b<wx.heap.size
theorem eq_.nil (c:Nat) (wx:World):eq_ c (.slice none 0 0) [] wx:=⟨World.ownsRow_nil _ _ _ _,λb h=>by cases h⟩
theorem eq_.turn {c:Nat} {s:Value} {ix:List Nat} {wx w':World} (h:eq_ c s ix wx) {T:Nat->Prop} (a:Turn T wx w') (d:∀b,s.ownBlock=some b->¬T b):eq_ c s ix w':=
 ⟨a.owns h.row d,λb hb=>⟨(h.blk b hb).1,Nat.lt_of_lt_of_le (h.blk b hb).2 a.size⟩⟩
theorem eq_.rd {c:Nat} {s:Value} {ix:List Nat} {wx:World} {F:Nat->Prop} (h:eq_ c s ix wx) (r:∀b,c+2<=b->b<wx.heap.size->F b):nj_ F wx ix s:=by
 rcases h.row.2 with⟨e,h0⟩ | ⟨g,p,u,e,_,B,h1,y,z,x⟩
 ·exact⟨none,0,by rw[e,h0],by omega,λi=>absurd i (by omega)⟩
 ·refine⟨some ⟨g,0,none⟩,p,e,h1,λi=>⟨g,0,rfl,?_,λa k f=>?_⟩⟩
  ·obtain⟨t,o⟩:=h.blk g (by rw[e];rfl);exact r g t o
  ·have hi:=(List.getElem?_eq_some_iff.1 f).1;have d:=h.row;rw[e]at d;have q:=d.cellAt a (by omega);rw[Nat.zero_add,q];unfold ixC;rw[List.getElem?_map,f];rfl
structure LdX (w0:World) (c:Nat) (S:Value) (T:List d_) (ss:Nat->Value) (zo:Nat) (j:Nat) (ixj:List Nat) (wx:World):Prop where
 m:LdM w0 c S ss wx
 own:x_ 99 18 TrS wx (λb=>c+2<=b/\b<wx.heap.size) T S
 names:wx.heap[zo]?=some (.cells #[.string (gu_ 0),.string (gu_ 1),.string (gu_ 2),.string (gu_ 3),.string (gu_ 4),.string (gu_ 5)] 9 (0,0))
 zo2:c+2<=zo
 rows:∀i,i<6->i≠j->∃ix,eq_ c (ss i) ix wx/\(i<j->l8_ (av_ i) T ix)/\(j<i->ss i = .slice none 0 0)
 rowj:j<6->eq_ c (ss j) ixj wx
 sep:∀i i',i<6->i'<6->i≠i'->∀b,(ss i).ownBlock=some b->(ss i').ownBlock≠some b
section
variable {w0 wx w':World} {c zo j:Nat} {S:Value} {T:List d_} {ss:Nat->Value} {ixj:List Nat}
theorem LdX.sblk (h:LdX w0 c S T ss zo j ixj wx):∀b,S.ownBlock=some b->c+2<=b/\b<wx.heap.size:=by obtain⟨cs,_,_,a,_⟩:=h.own;exact a
theorem LdX.turn (h:LdX w0 c S T ss zo j ixj wx) {d:Nat->Prop} (a:Turn d wx w') (h1:∀b,d b->c+2<=b) (u:∀b,S.ownBlock=some b->¬d b) (B:¬d zo) (p:∀i,i<6->i≠j->∀b,(ss i).ownBlock=some b->¬d b) (y:j<6->eq_ c (ss j) ixj w'):LdX w0 c S T ss zo j ixj w':=by
 refine⟨h.m.turn a h1,?_,a.heap h.names B,h.zo2,λi hi e=>?_,y,h.sep⟩
 ·obtain⟨cs,f,q,k,z⟩:=h.own;exact⟨cs,a.owns f u,q,λg o=>⟨(k g o).1,Nat.lt_of_lt_of_le (k g o).2 a.size⟩,λi x r=>z i x r⟩
 ·obtain⟨ix,D,t,C⟩:=h.rows i hi e;exact⟨ix,D.turn a (p i hi e),t,C⟩
theorem LdX.on (h:LdX w0 c S T ss zo j ixj wx) (hb:Below wx.heap.size wx w'):LdX w0 c S T ss zo j ixj w':=by
 have k:=b_ h.m.ph;refine h.turn (Turn.of_below hb) (λb hb=>by have hb:wx.heap.size<=b:=hb;omega) (λb hb a=>?_) (λa=>?_) (λi hi e b hb a=>?_) λd=>?_
 ·have:=(h.sblk b hb).2;have a:wx.heap.size<=b:=a;omega
 ·have:=b_ h.names;have a:wx.heap.size<=zo:=a;omega
 ·obtain⟨ix,g,_⟩:=h.rows i hi e;have:=(g.blk b hb).2;have a:wx.heap.size<=b:=a;omega
 ·exact (h.rowj d).turn (Turn.of_below hb) (λb f a=>by have:=((h.rowj d).blk b f).2;have a:wx.heap.size<=b:=a;omega)
theorem LdX.drew (h:LdX w0 c S T ss zo j ixj wx):LdX w0 c S T ss zo j ixj wx.drew:=h.on (Below.refl _ _).drew
theorem LdX.store {v:Value} {ix':List Nat} {g:Nat} {wr k:World} (h:LdX w0 c S T ss zo j ixj wr) (f:j<6) (hg:wr.grownBy k (ss j).ownBlock) (P:(ss j).ownBlock=some g\/wr.heap.size<=g) (V:g<k.heap.size) (C:v.ownBlock=some g) (ho:k.ownsRow 0 3 1 v ix'.length (ixC ix')) :
    LdX w0 c S T (Ib_ ss j v) zo j ix' (k.setCell ⟨c,1+j,none⟩ v):=by
 have d:=Turn.of_grown hg;have a0:c+2<=wr.heap.size:=by have:=b_ h.m.ph;omega
 have O:c+2<=g:=by
  rcases P with h1 | h1
  ·exact ((h.rowj f).blk g h1).1
  ·omega
 have r:∀i,i<6->i≠j->∀b,(ss i).ownBlock=some b->¬some b=(ss j).ownBlock:=λi hi a b hb e=>h.sep i j hi f a b hb e.symm;have W:LdM w0 c S ss k:=h.m.turn d (λb hb=>((h.rowj f).blk b hb.symm).1);have o:=(Turn.refl (λb=>b=c) k).setCell (p:=⟨c,1+j,none⟩) (.inr rfl) v;refine⟨W.setJ f v,?_,?_,h.zo2,λi hi a=>?_,λ_=>?_,λi y hi G B b hb=>?_⟩
 ·obtain⟨cs,u,h6,M,hr⟩:=h.own;have B:∀b,S.ownBlock=some b->¬some b=(ss j).ownBlock:=λb hb e=>i1_ u (h.rowj f).row (by decide) b e.symm hb;have L:∀b,S.ownBlock=some b->¬b=c:=λb hb e=>by have:=(M b hb).1;omega
  exact⟨cs,o.owns (d.owns u B) L,h6,λq t=>⟨(M q t).1,Nat.lt_of_lt_of_le (Nat.lt_of_lt_of_le (M q t).2 d.size) o.size⟩,λi x hx=>hr i x hx⟩
 ·have Z:k.heap[zo]?=_:=d.heap h.names (λe=>dj_ (h.rowj f).row h.names (by decide) e.symm);exact o.heap Z (by have:=h.zo2;omega)
 ·obtain⟨ix,D,Y,q3⟩:=h.rows i hi a;refine⟨ix,?_,Y,λU=>?_⟩
  ·show eq_ c (if i=j then v else ss i) ix _
   rw[if_neg a];exact (D.turn d (r i hi a)).turn o (λb hb e=>by have:=(D.blk b hb).1;omega)
  ·show (if i=j then v else ss i)=_
   rw[if_neg a];exact q3 U
 ·show eq_ c (if j=j then v else ss j) ix' _
  rw[if_pos rfl];refine⟨o.owns ho (λb hb e=>?_),λb hb=>?_⟩
  ·rw[C]at hb;injection hb with hb;omega
  ·rw[C]at hb;injection hb with hb;subst hb;exact⟨O,Nat.lt_of_lt_of_le V o.size⟩
 ·have hb:(if i=j then v else ss i).ownBlock=some b:=hb
  show (if y=j then v else ss y).ownBlock≠some b
  have z:∀q,q<6->q≠j->(ss q).ownBlock≠some g:=λq t I e=>by
   rcases P with h1 | h1
   ·exact h.sep q j t f I g e h1
   ·obtain⟨ix,D,_⟩:=h.rows q t I;have:=(D.blk g e).2;omega
  by_cases J:i=j
  ·rw[if_pos J,C]at hb;injection hb with hb;subst hb;rw[if_neg (by omega)];exact z y G (by omega)
  ·rw[if_neg J]at hb;by_cases X:y=j
   ·rw[if_pos X,C];intro e;injection e with e;subst e;exact z i hi J hb
   ·rw[if_neg X];exact h.sep i y hi G B b hb
theorem LdX.next (h:LdX w0 c S T ss zo j ixj wx) (g:j<6) (k:l8_ (av_ j) T ixj):LdX w0 c S T ss zo (j+1) [] wx:=by
 refine⟨h.m,h.own,h.names,h.zo2,λi hi o=>?_,λb=>?_,h.sep⟩
 ·by_cases e:i=j
  ·subst e;exact⟨ixj,h.rowj g,λ_=>k,λh=>by omega⟩
  ·obtain⟨ix,f,d,a⟩:=h.rows i hi e;exact⟨ix,f,λh=>d (by omega),λh=>a (by omega)⟩
 ·obtain⟨ix,f,d,a⟩:=h.rows (j+1) b (by omega);rw[a (by omega)];exact eq_.nil c wx
theorem LdX.start {w0 wx:World} {c:Nat} {S:Value} {T:List d_} (h:LdT w0 c S T wx):LdX w0 c S T s6_ wx.heap.size 0 [] (wx.alloc (.cells #[.string (gu_ 0),.string (gu_ 1),.string (gu_ 2),.string (gu_ 3),.string (gu_ 4),.string (gu_ 5)] 9)):=by have hb:Below wx.heap.size wx (wx.alloc (.cells #[.string (gu_ 0),.string (gu_ 1),.string (gu_ 2),.string (gu_ 3),.string (gu_ 4),.string (gu_ 5)] 9)):=(Below.refl _ _).alloc (Nat.le_refl _) _;have a:=h.on hb;have d:=b_ h.m.ph;exact⟨a.m,a.own,heap_alloc_new wx _,by omega,λi _ _=>⟨[],eq_.nil ..,λh=>by omega,λ_=>rfl⟩,λ_=>eq_.nil ..,λ_ _ _ _ _ b hb=>by cases hb⟩
theorem LdX.name (h:LdX w0 c S T ss zo j ixj wx) (a:j<6):wx.cell? ⟨zo,j,none⟩=some (.string (gu_ j)):=by rcases (show j=0\/j=1\/j=2\/j=3\/j=4\/j=5 by omega) with rfl | rfl | rfl | rfl | rfl | rfl<;>exact cell_of_heap h.names _
theorem LdX.stc {r n b g:Nat} {W:Way} (h:LdX w0 c (.slice (some ⟨r,0,none⟩) n b) T ss zo j ixj wx) (y:wx.heap[g]?=some (.cells (gt_ W) 101 (0,0))) :
    ∃cs,(∀a t,T[a]?=some t->ce_ t/\(∀n,a9_ (t.get n))/\∃ss,cs a=L_ t ss)/\StC (c+1) c r n b g W cs wx:=by
 obtain⟨cs,f,d,_⟩:=E5_ h.own;refine⟨cs,λa t k=>?_,h.m.cellP,h.m.cellS,λa o q p=>?_,y⟩
 ·obtain⟨z,i,s,_,x⟩:=f a t k;exact⟨z,i,s,x⟩
 ·obtain⟨e,h1,B,u⟩:=d.blk;rw[cell_of_row wx r (a*18+q) e _ _ h1];exact u a o q p
theorem LdX.sorted {ix':List Nat} (h:LdX w0 c S T ss zo j ixj wx) (a:j<6) (d:Turn (λb=>(ss j).ownBlock=some b) wx w') (y:w'.ownsRow 0 3 1 (ss j) ix'.length (ixC ix')):LdX w0 c S T ss zo j ix' w':=by
 have hb:LdX w0 c S T ss zo j ix' w':=by
  have u:LdX w0 c S T ss zo j ixj wx:=h;refine⟨h.m.turn d (λb hb=>((h.rowj a).blk b hb).1),?_,d.heap h.names (λe=>dj_ (h.rowj a).row h.names (by decide) e),h.zo2,λi hi k=>?_,λ_=>⟨y,λb hb=>⟨((h.rowj a).blk b hb).1,Nat.lt_of_lt_of_le ((h.rowj a).blk b hb).2 d.size⟩⟩,h.sep⟩
  ·obtain⟨cs,f,q,o,z⟩:=u.own;exact⟨cs,d.owns f (λb hb e=>i1_ f (h.rowj a).row (by decide) b e hb),q,λg p=>⟨(o g p).1,Nat.lt_of_lt_of_le (o g p).2 d.size⟩,λi x r=>z i x r⟩
  ·obtain⟨ix,C,t,B⟩:=h.rows i hi k;exact⟨ix,C.turn d (λb hb e=>h.sep i j hi a k b hb e),t,B⟩
 exact hb
set_option maxRecDepth 100000 in
theorem Bf_ {y:Option Addr} {d q g:Nat} (h:LdX w0 c (.slice y d q) T ss zo j (List.range d) wx) (u:j<6) (o:T.length=d) (x:d=0->ss j = .slice none 0 0) (J:wx.heap[g]?=some (.cells (gt_ (av_ j)) 101 (0,0))) (I:M_ w0) (P:bc_ w0)
    (U:∀t,t∈T->ce_ t) (B:T.Nodup) (hn:d<=65536) :
    Calls Tryz.prog 54 #[ss j,.func (.func 55) #[] #[.pointer (some ⟨c+1,0,none⟩),.pointer (some ⟨g,0,none⟩)]] wx λe w'=>e = .returned (.tuple #[])/\∃ix',l8_ (av_ j) T ix'/\LdX w0 c (.slice y d q) T ss zo j ix' w':=by
 by_cases z:d=0
 ·subst z;have L:T=[]:=List.eq_nil_of_length_eq_zero o;subst L;rw[x rfl];refine (AnyF.slices_SortFunc_none { Tryz.sortI with } none 0 _ wx).mono λe w' ⟨p,X⟩=>⟨p,[],⟨List.Perm.refl _,List.Pairwise.nil⟩,?_⟩;rw[X];exact h
 ·obtain⟨r,rfl⟩:∃r,y=some ⟨r,0,none⟩:=by obtain⟨cs,a,_⟩:=h.own;obtain⟨b,cp,e,_⟩:=World.ownsRow.form a (by omega);injection e with e _ _;exact⟨b,e⟩
  obtain⟨cs,G,M⟩:=h.stc J;have a:=(h.rowj u).row;have i:=(h.rowj u).blk;have Z:=h.m.c0;refine (xn_ (av_ j) (e7_ j) T (c+1) c r d q g cs w0 o G a (λk V=>List.mem_range.1 V) (by simp;omega) (.inl (by omega)) M h.m.hb (λb hb=>by have:=(i b hb).1;omega) (λb hb=>?_) I P).mono λe w' ⟨p,ix',O,D,C,W⟩=>⟨p,ix',Li_ (e7_ j) U B (by rw[o];exact O) D,h.sorted u W C⟩;have h1:=(i b hb).1;refine⟨by omega,by omega,λe=>?_,λe=>?_⟩
  ·obtain⟨Y,f,_⟩:=h.own;exact i1_ f a (by decide) b hb (by rw[e];rfl)
  ·exact dj_ a J (by decide) (by rw[hb,e])
theorem LdX.whole (h:LdX w0 c S T ss zo 6 ixj wx) (I:∀t,t∈T->ce_ t) (B:∀t,t∈T->∀n,a9_ (t.get n)) (i:j2_ (A_ (av_ 0)) T) (J:T.length<=65536):ja_ (λb=>w0.heap.size<=b/\b<wx.heap.size) wx c T:=by
 have h0:=h.m.c0;obtain⟨A,f,rfl⟩:=h.own.form
 have d:∃cs,ni_ (λb=>w0.heap.size<=b/\b<wx.heap.size) wx cs T (.slice A T.length f):=by
  by_cases o:0<T.length
  ·obtain⟨r,rfl⟩:∃r,A=some ⟨r,0,none⟩:=by obtain⟨cs,d,_⟩:=h.own;obtain⟨b,O,e,_⟩:=World.ownsRow.form d o;injection e with e _ _;exact⟨b,e⟩
   obtain⟨cs,p,y,_,z,_,u⟩:=E5_ h.own;obtain⟨x,h1,V,G⟩:=y.blk;exact⟨cs,p,_,f,rfl,z,λ_=>⟨r,rfl,⟨by omega,u.2⟩,λa D j g=>by rw[cell_of_row wx r (a*18+j) x _ _ h1];exact G a D j g⟩⟩
  ·obtain⟨cs,d,U,P,i⟩:=h.own;exact⟨cs,i,A,f,rfl,ff_ d,λh=>absurd h o⟩
 obtain⟨cs,q⟩:=d;refine⟨⟨_,ss,cs,h.m.pc,q,λj g=>?_⟩,⟨h0,b_ h.m.pc⟩,I,B,i,J⟩;obtain⟨ix,L,C,_⟩:=h.rows j g (by omega);exact⟨ix,C g,L.rd λb M k=>⟨by omega,k⟩⟩
end
end Go.Proofs.YtefhfadjajcmkaaGreatDoor
