/- A cursor: does it stand on a value; its closures. -/
import Derived.Test.YtefhfadjajcmkaaGreatDoorJB
set_option linter.unusedVariables false
set_option linter.unusedSimpArgs false
set_option maxRecDepth 100000
set_option maxHeartbeats 64000000
namespace Go.Proofs.YtefhfadjajcmkaaGreatDoor
open Go Go.RowKit Go.Maps
open Go.Lib (cell_of_heap)
structure je_ (F:Nat->Prop) (w:World) (cs:Nat->Array Value) (T:List d_) (S:Value):Prop where
 el:ElT T cs
 form:∃A cap,S = .slice A T.length cap/\T.length<=cap/\(0<T.length->∃r,A=some ⟨r,0,none⟩/\F r/\∀a,a<T.length->∀j,j<18->w.cell? ⟨r,a*18+j,none⟩=(cs a)[j]?)
def ih_ (F:Nat->Prop) (w:World) (ix:List Nat) (s:Value):Prop:=
 ∃A b,s = .slice A ix.length b/\ix.length<=b/\(0<ix.length->∃r o,A=some ⟨r,o,none⟩/\F r/\∀a k,ix[a]?=some k->w.cell? ⟨r,o+a,none⟩=some (.int .i64 (k:Nat)))
section
variable {F F':Nat->Prop} {w w':World} {cs:Nat->Array Value} {T:List d_} {S s:Value} {ix:List Nat}
theorem je_.keep (h:je_ F w cs T S) (g:∀p:Addr,F p.block->w'.cell? p=w.cell? p):je_ F w' cs T S:=by obtain⟨h0,A,b,e,h1,h2⟩:=h;refine⟨h0,A,b,e,h1,λi=>?_⟩;obtain⟨r,m,f,k⟩:=h2 i;exact⟨r,m,f,λa n j l=>(g ⟨r,a*18+j,none⟩ f).trans (k a n j l)⟩
theorem je_.mono (h:je_ F w cs T S) (m:∀b,F b->F' b):je_ F' w cs T S:=by obtain⟨h0,A,f,e,h1,h2⟩:=h;refine⟨h0,A,f,e,h1,λi=>?_⟩;obtain⟨r,l,g,k⟩:=h2 i;exact⟨r,l,m _ g,k⟩
theorem ih_.keep (h:ih_ F w ix s) (i:∀p:Addr,F p.block->w'.cell? p=w.cell? p):ih_ F w' ix s:=by obtain⟨A,b,e,h1,h2⟩:=h;refine⟨A,b,e,h1,λl=>?_⟩;obtain⟨r,o,n,f,m⟩:=h2 l;exact⟨r,o,n,f,λa k g=>(i ⟨r,o+a,none⟩ f).trans (m a k g)⟩
theorem ih_.mono (h:ih_ F w ix s) (m:∀b,F b->F' b):ih_ F' w ix s:=by obtain⟨A,f,e,h1,h2⟩:=h;refine⟨A,f,e,h1,λi=>?_⟩;obtain⟨r,o,l,g,k⟩:=h2 i;exact⟨r,o,l,m _ g,k⟩
end
structure en_ (F:Nat->Prop) (w:World) (c:Nat) (T:List d_):Prop where
 cells:∃(S:Value) (ss:Nat->Value) (cs:Nat->Array Value),w.heap[c]?=some (.cells #[S,ss 0,ss 1,ss 2,ss 3,ss 4,ss 5] 97 (0,0))/\je_ F w cs T S/\∀j,j<6->∃ix:List Nat,li_ (ak_ j) T ix/\ih_ F w ix (ss j)
 fc:F c
 scal:∀t,t∈T->bn_ t
 fit:∀t,t∈T->∀n,ag_ (t.get n)
 rise:i5_ (w_ (ak_ 0)) T
 len:T.length<=65536
theorem en_.keep {F:Nat->Prop} {w w':World} {c:Nat} {T:List d_} (h:en_ F w c T) (e:∀b,F b->w'.heap[b]?=w.heap[b]?):en_ F w' c T:=by obtain⟨S,ss,cs,h1,h2,g⟩:=h.cells;refine⟨⟨S,ss,cs,(e c h.fc).trans h1,h2.keep λp f=>World.cell?_of_block (e _ f),λj i=>?_⟩,h.fc,h.scal,h.fit,h.rise,h.len⟩;obtain⟨ix,k,l⟩:=g j i;exact⟨ix,k,l.keep λp f=>World.cell?_of_block (e _ f)⟩
def h8_ (L:List d_) (w:World) (e:Ending) (w':World):Prop:=
 (¬(L.length<=65536/\L.all dj_=true)/\e = .returned (.tuple #[.pointer none,.int .i64 20])/\Below w.heap.size w w') \/
 (L.length<=65536/\L.all dj_=true/\∃c,e = .returned (.tuple #[.pointer (some ⟨c,0,none⟩),.int .i64 0])/\Below w.heap.size w w'/\en_ (λb=>w.heap.size<=b/\b<w'.heap.size) w' c (ba_ (w_ (ak_ 0)) L))
def Ix_ (ss:Nat->Value) (j:Nat) (v:Value):Nat->Value:=λi=>if i=j then v else ss i
theorem ne_ (z j:Nat) (b:j<6) (w:World):(Instr.indexAt 95 (.pointer (some ⟨z,1,none⟩)) (.int .i64 (j:Nat))).run Tryz.prog w = .ok (.pointer (some ⟨z,1+j,none⟩)) w:=by rcases (show j=0\/j=1\/j=2\/j=3\/j=4\/j=5 by omega) with rfl | rfl | rfl | rfl | rfl | rfl<;>kernel_rfl
section
variable {w0 wx w':World} {c:Nat} {S:Value} {ss:Nat->Value}
theorem LdM.cellJ (h:LdM w0 c S ss wx) {j:Nat} (b:j<6):wx.cell? ⟨c,1+j,none⟩=some (ss j):=by rcases (show j=0\/j=1\/j=2\/j=3\/j=4\/j=5 by omega) with rfl | rfl | rfl | rfl | rfl | rfl<;>exact cell_of_heap h.pc _
theorem LdM.setJ (h:LdM w0 c S ss wx) {j:Nat} (g:j<6) (v:Value):LdM w0 c S (Ix_ ss j v) (wx.setCell ⟨c,1+j,none⟩ v):=by have ht:=(Turn.refl (λb=>b=c) wx).setCell (p:=⟨c,1+j,none⟩) (.inr rfl) v;refine⟨h.hb.trans ⟨ht.os,ht.tape,ht.output,ht.size,λk f=>ht.block k (Nat.lt_of_lt_of_le f h.hb.size) (λe=>by have:=h.c0;omega)⟩,h.c0,ht.heap h.ph (by show ¬c+1=c;omega),?_⟩;rcases (show j=0\/j=1\/j=2\/j=3\/j=4\/j=5 by omega) with rfl | rfl | rfl | rfl | rfl | rfl<;>exact heap_setCell_same wx c _ _ _ v h.pc
end
structure df_ (c:Nat) (s:Value) (ix:List Nat) (wx:World):Prop where
 row:wx.ownsRow 0 3 1 s ix.length (ixC ix)
 blk:∀b,s.ownBlock=some b->c+2<=b/\b<wx.heap.size
theorem df_.nil (c:Nat) (wx:World):df_ c (.slice none 0 0) [] wx:=⟨World.ownsRow_nil _ _ _ _,λb h=>by cases h⟩
theorem df_.turn {c:Nat} {s:Value} {ix:List Nat} {wx w':World} (h:df_ c s ix wx) {T:Nat->Prop} (ht:Turn T wx w') (e:∀b,s.ownBlock=some b->¬T b):df_ c s ix w':=
 ⟨ht.owns h.row e,λb hb=>⟨(h.blk b hb).1,Nat.lt_of_lt_of_le (h.blk b hb).2 ht.size⟩⟩
theorem df_.rd {c:Nat} {s:Value} {ix:List Nat} {wx:World} {F:Nat->Prop} (h:df_ c s ix wx) (r:∀b,c+2<=b->b<wx.heap.size->F b):ih_ F wx ix s:=by
 rcases h.row.2 with⟨e,h0⟩ | ⟨g,n,t,e,_,v,h1,h2,u,x⟩
 ·exact⟨none,0,by rw[e,h0],by omega,λl=>absurd l (by omega)⟩
 ·refine⟨some ⟨g,0,none⟩,n,e,h1,λl=>⟨g,0,rfl,?_,λa k i=>?_⟩⟩
  ·obtain⟨p,o⟩:=h.blk g (by rw[e];rfl);exact r g p o
  ·have hi:=(List.getElem?_eq_some_iff.1 i).1;have f:=h.row;rw[e]at f;have m:=f.cellAt a (by omega);rw[Nat.zero_add,m];unfold ixC;rw[List.getElem?_map,i];rfl
structure LdX (w0:World) (c:Nat) (S:Value) (T:List d_) (ss:Nat->Value) (zo:Nat) (j:Nat) (ixj:List Nat) (wx:World):Prop where
 m:LdM w0 c S ss wx
 own:B_ 99 18 TrS wx (λb=>c+2<=b/\b<wx.heap.size) T S
 names:wx.heap[zo]?=some (.cells #[.string (fe_ 0),.string (fe_ 1),.string (fe_ 2),.string (fe_ 3),.string (fe_ 4),.string (fe_ 5)] 9 (0,0))
 zo2:c+2<=zo
 rows:∀i,i<6->i≠j->∃ix,df_ c (ss i) ix wx/\(i<j->li_ (ak_ i) T ix)/\(j<i->ss i = .slice none 0 0)
 rowj:j<6->df_ c (ss j) ixj wx
 sep:∀i i',i<6->i'<6->i≠i'->∀b,(ss i).ownBlock=some b->(ss i').ownBlock≠some b
section
variable {w0 wx w':World} {c zo j:Nat} {S:Value} {T:List d_} {ss:Nat->Value} {ixj:List Nat}
theorem LdX.sblk (h:LdX w0 c S T ss zo j ixj wx):∀b,S.ownBlock=some b->c+2<=b/\b<wx.heap.size:=by obtain⟨cs,_,_,e,_⟩:=h.own;exact e
theorem LdX.turn (h:LdX w0 c S T ss zo j ixj wx) {e:Nat->Prop} (ht:Turn e wx w') (h1:∀b,e b->c+2<=b) (h2:∀b,S.ownBlock=some b->¬e b) (p:¬e zo) (y:∀i,i<6->i≠j->∀b,(ss i).ownBlock=some b->¬e b) (o:j<6->df_ c (ss j) ixj w'):LdX w0 c S T ss zo j ixj w':=by
 refine⟨h.m.turn ht h1,?_,ht.heap h.names p,h.zo2,λi hi f=>?_,o,h.sep⟩
 ·obtain⟨cs,k,A,n,z⟩:=h.own;exact⟨cs,ht.owns k h2,A,λg l=>⟨(n g l).1,Nat.lt_of_lt_of_le (n g l).2 ht.size⟩,λi x u=>z i x u⟩
 ·obtain⟨ix,v,t,r⟩:=h.rows i hi f;exact⟨ix,v.turn ht (y i hi f),t,r⟩
theorem LdX.on (h:LdX w0 c S T ss zo j ixj wx) (hb:Below wx.heap.size wx w'):LdX w0 c S T ss zo j ixj w':=by
 have l:=b_ h.m.ph;refine h.turn (Turn.of_below hb) (λb hb=>by have hb:wx.heap.size<=b:=hb;omega) (λb hb h2=>?_) (λh2=>?_) (λi hi g b hb h2=>?_) λe=>?_
 ·have:=(h.sblk b hb).2;have h2:wx.heap.size<=b:=h2;omega
 ·have:=b_ h.names;have h2:wx.heap.size<=zo:=h2;omega
 ·obtain⟨ix,k,_⟩:=h.rows i hi g;have:=(k.blk b hb).2;have h2:wx.heap.size<=b:=h2;omega
 ·exact (h.rowj e).turn (Turn.of_below hb) (λb f h2=>by have:=((h.rowj e).blk b f).2;have h2:wx.heap.size<=b:=h2;omega)
theorem LdX.drew (h:LdX w0 c S T ss zo j ixj wx):LdX w0 c S T ss zo j ixj wx.drew:=h.on (Below.refl _ _).drew
theorem LdX.store {v:Value} {ix':List Nat} {g:Nat} {wr n:World} (h:LdX w0 c S T ss zo j ixj wr) (l:j<6) (X:wr.grownBy n (ss j).ownBlock) (L:(ss j).ownBlock=some g\/wr.heap.size<=g) (R:g<n.heap.size) (A:v.ownBlock=some g) (ho:n.ownsRow 0 3 1 v ix'.length (ixC ix')) :
    LdX w0 c S T (Ix_ ss j v) zo j ix' (n.setCell ⟨c,1+j,none⟩ v):=by
 have k:=Turn.of_grown X;have a0:c+2<=wr.heap.size:=by have:=b_ h.m.ph;omega
 have O:c+2<=g:=by
  rcases L with h1 | h1
  ·exact ((h.rowj l).blk g h1).1
  ·omega
 have u:∀i,i<6->i≠j->∀b,(ss i).ownBlock=some b->¬some b=(ss j).ownBlock:=λi hi f b hb e=>h.sep i j hi l f b hb e.symm;have J:LdM w0 c S ss n:=h.m.turn k (λb hb=>((h.rowj l).blk b hb.symm).1);have ht:=(Turn.refl (λb=>b=c) n).setCell (p:=⟨c,1+j,none⟩) (.inr rfl) v;refine⟨J.setJ l v,?_,?_,h.zo2,λi hi f=>?_,λ_=>?_,λi y hi D t b hb=>?_⟩
 ·obtain⟨cs,r,Z,G,hr⟩:=h.own;have t:∀b,S.ownBlock=some b->¬some b=(ss j).ownBlock:=λb hb e=>hz_ r (h.rowj l).row (by decide) b e.symm hb;have E:∀b,S.ownBlock=some b->¬b=c:=λb hb e=>by have:=(G b hb).1;omega
  exact⟨cs,ht.owns (k.owns r t) E,Z,λq o=>⟨(G q o).1,Nat.lt_of_lt_of_le (Nat.lt_of_lt_of_le (G q o).2 k.size) ht.size⟩,λi x V=>hr i x V⟩
 ·have U:n.heap[zo]?=_:=k.heap h.names (λe=>c8_ (h.rowj l).row h.names (by decide) e.symm);exact ht.heap U (by have:=h.zo2;omega)
 ·obtain⟨ix,B,Y,W⟩:=h.rows i hi f;refine⟨ix,?_,Y,λN=>?_⟩
  ·show df_ c (if i=j then v else ss i) ix _
   rw[if_neg f];exact (B.turn k (u i hi f)).turn ht (λb hb e=>by have:=(B.blk b hb).1;omega)
  ·show (if i=j then v else ss i)=_
   rw[if_neg f];exact W N
 ·show df_ c (if j=j then v else ss j) ix' _
  rw[if_pos rfl];refine⟨ht.owns ho (λb hb e=>?_),λb hb=>?_⟩
  ·rw[A]at hb;injection hb with hb;omega
  ·rw[A]at hb;injection hb with hb;subst hb;exact⟨O,Nat.lt_of_lt_of_le R ht.size⟩
 ·have hb:(if i=j then v else ss i).ownBlock=some b:=hb
  show (if y=j then v else ss y).ownBlock≠some b
  have z:∀q,q<6->q≠j->(ss q).ownBlock≠some g:=λq o C e=>by
   rcases L with h1 | h1
   ·exact h.sep q j o l C g e h1
   ·obtain⟨ix,B,_⟩:=h.rows q o C;have:=(B.blk g e).2;omega
  by_cases I:i=j
  ·rw[if_pos I,A]at hb;injection hb with hb;subst hb;rw[if_neg (by omega)];exact z y D (by omega)
  ·rw[if_neg I]at hb;by_cases M:y=j
   ·rw[if_pos M,A];intro e;injection e with e;subst e;exact z i hi I hb
   ·rw[if_neg M];exact h.sep i y hi D t b hb
theorem LdX.next (h:LdX w0 c S T ss zo j ixj wx) (n:j<6) (l:li_ (ak_ j) T ixj):LdX w0 c S T ss zo (j+1) [] wx:=by
 refine⟨h.m,h.own,h.names,h.zo2,λi hi o=>?_,λg=>?_,h.sep⟩
 ·by_cases e:i=j
  ·subst e;exact⟨ixj,h.rowj n,λ_=>l,λh=>by omega⟩
  ·obtain⟨ix,f,k,b⟩:=h.rows i hi e;exact⟨ix,f,λh=>k (by omega),λh=>b (by omega)⟩
 ·obtain⟨ix,f,k,b⟩:=h.rows (j+1) g (by omega);rw[b (by omega)];exact df_.nil c wx
theorem LdX.start {w0 wx:World} {c:Nat} {S:Value} {T:List d_} (h:LdT w0 c S T wx):LdX w0 c S T s1_ wx.heap.size 0 [] (wx.alloc (.cells #[.string (fe_ 0),.string (fe_ 1),.string (fe_ 2),.string (fe_ 3),.string (fe_ 4),.string (fe_ 5)] 9)):=by have hb:Below wx.heap.size wx (wx.alloc (.cells #[.string (fe_ 0),.string (fe_ 1),.string (fe_ 2),.string (fe_ 3),.string (fe_ 4),.string (fe_ 5)] 9)):=(Below.refl _ _).alloc (Nat.le_refl _) _;have h2:=h.on hb;have e:=b_ h.m.ph;exact⟨h2.m,h2.own,heap_alloc_new wx _,by omega,λi _ _=>⟨[],df_.nil ..,λh=>by omega,λ_=>rfl⟩,λ_=>df_.nil ..,λ_ _ _ _ _ b hb=>by cases hb⟩
theorem LdX.name (h:LdX w0 c S T ss zo j ixj wx) (b:j<6):wx.cell? ⟨zo,j,none⟩=some (.string (fe_ j)):=by rcases (show j=0\/j=1\/j=2\/j=3\/j=4\/j=5 by omega) with rfl | rfl | rfl | rfl | rfl | rfl<;>exact cell_of_heap h.names _
theorem LdX.stc {r n b g:Nat} {W:Way} (h:LdX w0 c (.slice (some ⟨r,0,none⟩) n b) T ss zo j ixj wx) (u:wx.heap[g]?=some (.cells (e3_ W) 101 (0,0))) :
    ∃cs,(∀a t,T[a]?=some t->bn_ t/\(∀n,ag_ (t.get n))/\∃ss,cs a=s_ t ss)/\StC (c+1) c r n b g W cs wx:=by
 obtain⟨cs,f,e,_⟩:=Fe_ h.own;refine⟨cs,λa t ht=>?_,h.m.cellP,h.m.cellS,λa v q k=>?_,u⟩
 ·obtain⟨p,x,s,_,o⟩:=f a t ht;exact⟨p,x,s,o⟩
 ·obtain⟨i,h1,h2,l⟩:=e.blk;rw[cell_of_row wx r (a*18+q) i _ _ h1];exact l a v q k
theorem LdX.sorted {ix':List Nat} (h:LdX w0 c S T ss zo j ixj wx) (f:j<6) (ht:Turn (λb=>(ss j).ownBlock=some b) wx w') (u:w'.ownsRow 0 3 1 (ss j) ix'.length (ixC ix')):LdX w0 c S T ss zo j ix' w':=by
 have hb:LdX w0 c S T ss zo j ix' w':=by
  have y:LdX w0 c S T ss zo j ixj wx:=h;refine⟨h.m.turn ht (λb hb=>((h.rowj f).blk b hb).1),?_,ht.heap h.names (λe=>c8_ (h.rowj f).row h.names (by decide) e),h.zo2,λi hi l=>?_,λ_=>⟨u,λb hb=>⟨((h.rowj f).blk b hb).1,Nat.lt_of_lt_of_le ((h.rowj f).blk b hb).2 ht.size⟩⟩,h.sep⟩
  ·obtain⟨cs,k,A,o,z⟩:=y.own;exact⟨cs,ht.owns k (λb hb e=>hz_ k (h.rowj f).row (by decide) b e hb),A,λg n=>⟨(o g n).1,Nat.lt_of_lt_of_le (o g n).2 ht.size⟩,λi x t=>z i x t⟩
  ·obtain⟨ix,v,r,p⟩:=h.rows i hi l;exact⟨ix,v.turn ht (λb hb e=>h.sep i j hi f l b hb e),r,p⟩
 exact hb
theorem Bo_ {x:Option Addr} {i y g:Nat} (h:LdX w0 c (.slice x i y) T ss zo j (List.range i) wx) (u:j<6) (p:T.length=i) (v:i=0->ss j = .slice none 0 0) (E:wx.heap[g]?=some (.cells (e3_ (ak_ j)) 101 (0,0))) (A:F_ w0) (B:as_ w0)
    (R:∀t,t∈T->bn_ t) (G:T.Nodup) (X:i<=65536) :
    Calls Tryz.prog 54 #[ss j,.func (.func 55) #[] #[.pointer (some ⟨c+1,0,none⟩),.pointer (some ⟨g,0,none⟩)]] wx λe w'=>e = .returned (.tuple #[])/\∃ix',li_ (ak_ j) T ix'/\LdX w0 c (.slice x i y) T ss zo j ix' w':=by
 by_cases L:i=0
 ·subst L;have D:T=[]:=List.eq_nil_of_length_eq_zero p;subst D;rw[v rfl];refine (AnyF.slices_SortFunc_none { Tryz.sortI with } none 0 _ wx).mono λe w' ⟨o,N⟩=>⟨o,[],⟨List.Perm.refl _,List.Pairwise.nil⟩,?_⟩;rw[N];exact h
 ·obtain⟨r,rfl⟩:∃r,x=some ⟨r,0,none⟩:=by obtain⟨cs,f,_⟩:=h.own;obtain⟨b,W,e,_⟩:=World.ownsRow.form f (by omega);injection e with e _ _;exact⟨b,e⟩
  obtain⟨cs,M,J⟩:=h.stc E;have f:=(h.rowj u).row;have n:=(h.rowj u).blk;have U:=h.m.c0;refine (xn_ (ak_ j) (dd_ j) T (c+1) c r i y g cs w0 p M f (λk O=>List.mem_range.1 O) (by simp;omega) (.inl (by omega)) J h.m.hb (λb hb=>by have:=(n b hb).1;omega) (λb hb=>?_) A B).mono λe w' ⟨o,ix',z,I,C,ht⟩=>⟨o,ix',Lw_ (dd_ j) R G (by rw[p];exact z) I,h.sorted u ht C⟩;have h1:=(n b hb).1;refine⟨by omega,by omega,λe=>?_,λe=>?_⟩
  ·obtain⟨V,l,_⟩:=h.own;exact hz_ l f (by decide) b hb (by rw[e];rfl)
  ·exact c8_ f E (by decide) (by rw[hb,e])
theorem LdX.whole (h:LdX w0 c S T ss zo 6 ixj wx) (G:∀t,t∈T->bn_ t) (E:∀t,t∈T->∀n,ag_ (t.get n)) (k:i5_ (w_ (ak_ 0)) T) (C:T.length<=65536):en_ (λb=>w0.heap.size<=b/\b<wx.heap.size) wx c T:=by
 have h0:=h.m.c0;obtain⟨A,g,rfl⟩:=h.own.form
 have f:∃cs,je_ (λb=>w0.heap.size<=b/\b<wx.heap.size) wx cs T (.slice A T.length g):=by
  by_cases p:0<T.length
  ·obtain⟨r,rfl⟩:∃r,A=some ⟨r,0,none⟩:=by obtain⟨cs,f,_⟩:=h.own;obtain⟨b,M,e,_⟩:=World.ownsRow.form f p;injection e with e _ _;exact⟨b,e⟩
   obtain⟨cs,u,x,_,y,_,l⟩:=Fe_ h.own;obtain⟨v,h1,h2,B⟩:=x.blk;exact⟨cs,u,_,g,rfl,y,λ_=>⟨r,rfl,⟨by omega,l.2⟩,λa J j i=>by rw[cell_of_row wx r (a*18+j) v _ _ h1];exact B a J j i⟩⟩
  ·obtain⟨cs,f,O,N,k⟩:=h.own;exact⟨cs,k,A,g,rfl,q4_ f,λh=>absurd h p⟩
 obtain⟨cs,z⟩:=f;refine⟨⟨_,ss,cs,h.m.pc,z,λj i=>?_⟩,⟨h0,b_ h.m.pc⟩,G,E,k,C⟩;obtain⟨ix,I,D,_⟩:=h.rows j i (by omega);exact⟨ix,D i,I.rd λb L o=>⟨by omega,o⟩⟩
end
theorem Iy_ (u r p t v a5 o x m n f k i l g e b h:Value) (w:World):(Instr.buildSlice 93 1 #[(0,.agg #[u,r,p,t,v,a5,o,x,m,n,f,k,i,l,g,e,b,h])]).run Tryz.prog w = .ok (.slice (some ⟨w.heap.size,0,none⟩) 1 1) (w.alloc (.cells #[u,r,p,t,v,a5,o,x,m,n,f,k,i,l,g,e,b,h] 99)):=by kernel_rfl
theorem K5_ (c:Array Value) (b:c.size=18) (w:World):(Instr.buildSlice 93 1 #[(0,.agg c)]).run Tryz.prog w = .ok (.slice (some ⟨w.heap.size,0,none⟩) 1 1) (w.alloc (.cells c 99)):=by
 obtain⟨l⟩:=c;match l,b with
 | [a0,a1,a2,a3,a4,a5,a6,a7,a8,a9,a10,a11,a12,a13,a14,a15,a16,a17],_=>exact Iy_ a0 a1 a2 a3 a4 a5 a6 a7 a8 a9 a10 a11 a12 a13 a14 a15 a16 a17 w
theorem Fk_ {op:Oper} {a:Act} {K:Act->World->Prop} {Q:Exit->Act->World->Prop} {w:World} (x:Operand) (e:op.op = .buildSlice 93 1 #[(0,x)]) {c:Array Value} (b:a.eval x = .agg c) (f:c.size=18) (h:K (a.put op.dst (.slice (some ⟨w.heap.size,0,none⟩) 1 1)) (w.alloc (.cells c 99))):op.wp Tryz.prog a w K Q:=by unfold Oper.wp execOp;simp only[e,List.map_toArray,List.map_cons,List.map_nil,b,Sem.run_bind,Sem.run_pure,K5_ c f w,Result.andThen_ok];exact h
theorem cm_ {v:h_} (h:X_ v):v.list=[]:=by rcases bs_ h with⟨_,e⟩ | ⟨_,e⟩ | ⟨_,_,e⟩ | ⟨_,e⟩<;>(rw[e];rfl)
theorem K6_ {t:d_} (h:dj_ t=true) (g:OkT t) {w:World} {F:Nat->Prop} {ss:Nat->Value} (l:∀i,i<3->VRd w F (t.get i) (.agg (c_ (t.get i) (ss i)))):(∀i,i<3->∃A b,ss i = .slice A 0 b)/\∀w F,TrS w F t (s_ t ss):=by
 have k:=c5_ h g
 have f:∀i,i<3->∃A b,ss i = .slice A 0 b:=λi hi=>by
  obtain⟨A,b,e,_,_⟩:=(l i hi).inv;injection e with e;have:=congrArg (λa:Array Value=>a[5]?) e;rw[cm_ (k.get i)]at this;exact⟨A,b,by simpa [c_] using this⟩
 exact⟨f,λ_ _=>⟨k,λn=>(g.get n).fit,ss,f,rfl⟩⟩
theorem Fl_ {w w2:World} (hb:Below w.heap.size w w2):LdT w w2.heap.size (.slice none 0 0) [] ((w2.alloc (.cells #[.slice none 0 0,.slice none 0 0,.slice none 0 0,.slice none 0 0,.slice none 0 0,.slice none 0 0,.slice none 0 0] 97)).alloc (.cells #[.pointer (some ⟨w2.heap.size,0,none⟩)] 29)):=
 ⟨⟨hb.trans ((L_ w2 _ _).mono hb.size),hb.size,heap_alloc2_new w2 _ _,heap_alloc2_old w2 _ _⟩,B_.nil ..⟩
theorem Iz_ (W:World):(Instr.build 97 #[]).run Tryz.prog W = .ok (.agg #[.slice none 0 0,.slice none 0 0,.slice none 0 0,.slice none 0 0,.slice none 0 0,.slice none 0 0,.slice none 0 0]) W:=by kernel_rfl
theorem cn_ {w w5:World} {o:Obj} (ht:Turn (λb=>b=w.heap.size) (w.alloc o) w5):Below w.heap.size w w5:=
 ((Below.refl _ _).alloc (Nat.le_refl _) o).trans ⟨ht.os,ht.tape,ht.output,ht.size,λk e=>ht.block k (by simp;omega) (by omega)⟩
theorem xp_ {t:d_} {ss:Nat->Value} (h:∀i,i<3->∃A b,ss i = .slice A 0 b):(s_ t ss).all (·.oneCell')=true:=by rw[<-Array.toArray_toList (xs:=s_ t ss)];exact all_oneCell_toArray (b0_ t ss λq f=>by obtain⟨A,g,e⟩:=h q f;exact⟨A,0,g,e⟩)
theorem rf_ (L:List d_) (bn:∀t,t∈L->OkT t) (F:Nat->Prop) (A:Option Addr) (n cp:Nat) (w:World) (hF:∀g,F g->g<w.heap.size) (h:SRd 18 TrR w F L A n) (hn:n<=1000000000) (bp:F_ w) (c6:as_ w) :
    Calls Tryz.prog 12 #[.slice A n cp] w (h8_ L w):=by
 have H1:=q_ (λ(W:World) (hb:Below w.heap.size w W)=>h.under TrR.good hb hF);have L1:=q_ h.1;have ae:=q_ bn;have HG:=q_ (And.intro bp c6);have b9:=q_ (qe_ L bn F A n cp w hF h hn bp);unfold u_ at b9;clear h bn hF bp c6;by_cases cq:65536<n
 ·have e1:(65536:Int)<n:=by omega
  go_enter Tryz.func12,Tryz.ntmps12
  have HR:=q_ (show ∀w',Below w.heap.size w w'->h8_ L w (.returned (.tuple #[.pointer none,.int .i64 20])) w' from λw' hb=>.inl ⟨λh2=>by have:=h2.1;have:=L1.o;omega,rfl,hb⟩);go_wp2_with fail;go_ret2;exact HR.o _ (Below.refl _ _)
 ·have e1:¬(65536:Int)<n:=by omega
  have HN:=q_ (show n<=65536 from by omega);obtain⟨m,Hm⟩:=a_ (L.all dj_);rw[Hm.o]at b9;go_enter Tryz.func12,Tryz.ntmps12
  go_wp2_with fail;refine b9.o.mono ?_;rintro e w2 ⟨rfl,ce⟩;have cc:=q_ ce;clear ce b9 e1 hn cq
  cases m with
  | false=>
   have HR:=q_ (show h8_ L w (.returned (.tuple #[.pointer none,.int .i64 20])) w2 from .inl ⟨λh2=>(by rw[Hm.o]at h2;cases h2.2),rfl,cc.o⟩);go_wp2_with fail;go_ret2;exact HR.o
  | true=>
   have cm:=q_ Hm.o;have aj:=q_ (λt (ht:t∈L)=>List.all_eq_true.1 Hm.o t ht);obtain⟨z,Hz⟩:=a_ w2.heap.size;obtain⟨w3,bf⟩:=a_ ((w2.alloc (.cells #[.slice none 0 0,.slice none 0 0,.slice none 0 0,.slice none 0 0,.slice none 0 0,.slice none 0 0,.slice none 0 0] 97)).alloc (.cells #[.pointer (some ⟨w2.heap.size,0,none⟩)] 29));have bs:=Fl_ cc.o;rw[bf.o,Hz.o]at bs;rw[Hz.o]at bf;have d2:=q_ bs;clear bs Hm;go_upto_region 4 with ((with_reducible refine e_ (some 23) ?_);refine O_ rfl 97 #[] rfl #[] rfl (.agg #[.slice none 0 0,.slice none 0 0,.slice none 0 0,.slice none 0 0,.slice none 0 0,.slice none 0 0,.slice none 0 0]) (Iz_ _) ?_)
   rw[Hz.o,bf.o];clear bf Hz;go_wp2_with fail;go_loopw [27] (λs wx=>∃(k:Nat) (S:Value),k<=n/\s = .int .i64 (k:Nat)/\Q_ (LdT w z S (L.take k) wx)) (λs _=>n-(intOf s).toNat)
   case atStart=>exact⟨0,.slice none 0 0,by omega,rfl,q_ d2.o⟩
   case round=>
    obtain⟨k,S,hk,rfl,R⟩:=hrel;by_cases d3:k<n
    ·obtain⟨y,hy⟩:∃y,L[k]?=some y:=⟨_,List.getElem?_eq_getElem (by rw[<-L1.o];exact d3)⟩;have HY:=q_ hy;obtain⟨ad,ss,rfl,_,hq,hr⟩:=TrR.cells (H1.o wr R.o.m.hb) hy;obtain⟨bu,c9⟩:=K6_ (aj.o y (List.mem_of_getElem? hy)) (ae.o y (List.mem_of_getElem? hy)) hr;have bi:=q_ c9;have bl:=q_ (λW:World=>u0_ y ss (λi hi=>by obtain⟨A,c,e⟩:=bu i hi;exact⟨A,0,c,e⟩) W);unfold y7_ at bl;have b1:=xp_ (t:=y) bu;clear hy hr c9 bu;obtain⟨U,b7⟩:=ah_ y ss;rw[b7.o]at bl hq b1 bi;have HQ:=q_ hq;have cu:=q_ b1;clear hq b1;have Z1:=q_ b7.size;have Q1:=q_ (gj_.trans (congrArg some b7.size.symm));clear b7;have e1:(0:Int)<=k:=by omega
     have e2:(k:Int)<n:=by omega
     have w1:IntKind.i64.wrap ((k:Int)+1)=(k:Int)+1:=IntWalk.i64_in _ (by have:=HN.o;omega);obtain⟨Y,ai⟩:=a_ wr.heap.size;have aq:=q_ (show (wr.alloc (.cells (#[.int .i64 0,.bool false,.int .i64 0,.string ⟨#[]⟩,.string ⟨#[]⟩,.slice none 0 0,.int .i64 0,.bool false,.int .i64 0,.string ⟨#[]⟩,.string ⟨#[]⟩,.slice none 0 0,.int .i64 0,.bool false,.int .i64 0,.string ⟨#[]⟩,.string ⟨#[]⟩,.slice none 0 0]) 41)).heap[Y]?=some (.cells (#[.int .i64 0,.bool false,.int .i64 0,.string ⟨#[]⟩,.string ⟨#[]⟩,.slice none 0 0,.int .i64 0,.bool false,.int .i64 0,.string ⟨#[]⟩,.string ⟨#[]⟩,.slice none 0 0,.int .i64 0,.bool false,.int .i64 0,.string ⟨#[]⟩,.string ⟨#[]⟩,.slice none 0 0]) 41 (0,0)) from by rw[<-ai.o];exact heap_alloc_new wr _)
     go_upto_region 7 with (first
      | ((with_reducible refine e_ (some 30) ?_);refine nc_ rfl 41 _ rfl rfl U _ HQ.o Tryz.underlying41 rfl Q1.o ?_)
      | ((with_reducible refine z_ 6 ?_);refine r_ rfl 41 _ _ rfl Y (#[.int .i64 0,.bool false,.int .i64 0,.string ⟨#[]⟩,.string ⟨#[]⟩,.slice none 0 0,.int .i64 0,.bool false,.int .i64 0,.string ⟨#[]⟩,.string ⟨#[]⟩,.slice none 0 0,.int .i64 0,.bool false,.int .i64 0,.string ⟨#[]⟩,.string ⟨#[]⟩,.slice none 0 0]) U 41 (by rw[<-ai.o];rfl) rfl aq.o Z1.o Q1.o cu.o ?_;intro w5 av ap))
     rw[ai.o];have ab:=q_ (show Below wr.heap.size wr w5 from cn_ (by rw[ai.o];exact ap));have ao:=q_ av;clear av ap HQ aq;have x:=q_ (R.o.on ab.o);have g0:w5.drew.cell? ⟨z,0,none⟩=some S:=x.o.m.drew.cellS;have Q2:=q_ (gj_.trans (congrArg some Z1.o.symm));refine wp_region_held_drew (S:=λW'=>W'.cell? ⟨z+1,0,none⟩=some (.pointer (some ⟨z,0,none⟩))/\W'.heap[Y]?=some (.cells U 41 (0,0))) (by kernel_rfl) ⟨x.o.m.drew.cellP,ao.o⟩ λf=>?_;refine V_.o ?_;refine J_ 0 31 (.pointer (some ⟨z,0,none⟩)) f (λw C=>?_) λf=>?_
     ·have p:=C.1;unfold o_;go_simp
     (try simp only[Act.put,aT,aZ,aS]);refine J_ 1 32 (.pointer (some ⟨z,0,none⟩)) f (λw C=>?_) λf=>?_
     ·have p:=C.1;unfold o_;go_simp
     (try simp only[Act.put,aT,aZ,aS]);refine v_ 2 33 (.pointer (some ⟨z,0,none⟩)) f λf=>?_;(try simp only[Act.put,aT,aZ,aS]);refine v_ 3 34 (.pointer (some ⟨z,0,none⟩)) f λf=>?_;(try simp only[Act.put,aT,aZ,aS]);refine J_ 5 36 (.agg U) f (λw C=>?_) λf=>?_
     ·exact k_ (ap_ C.2 41 _ Tryz.underlying41 rfl Q2.o)
     (try simp only[Act.put,aT,aZ,aS]);refine b4_ 4 6 (by kernel_rfl) (by rfl) (by rfl) (λK r=>?_) λK r=>?_
     ·skip
      unfold fr_;go_simp;refine r.out _ _ f λf=>?_;clear r K;(try simp only[Act.put,aT,aZ,aS]);refine tkC 6 λK r=>?_;change Oper.wp _ ⟨some 37,_,_,_,_,_⟩ _ _ _ _;go_simp;refine (bl.o w5.drew).mono ?_;rintro e w6 ⟨rfl,M⟩;have f:w6.cell? ⟨z+1,0,none⟩=some (.pointer (some ⟨z,0,none⟩))/\w6.heap[Y]?=some (.cells U 41 (0,0)):=⟨(x.o.drew.on M).m.cellP,(M.block Y (b_ ao.o)).trans ao.o⟩;dsimp only;refine r.out _ _ f λf=>?_;clear r K;(try simp only[Act.put,aT,aZ,aS]);have u:=q_ (x.o.drew.on M);have b5:=q_ (show Below wr.heap.size wr w6 from ab.o.trans ((aa_ M).mono ab.o.size));have N:=q_ f;have bk:=q_ (show (w6.alloc (.cells U 99)).cell? ⟨z+1,0,none⟩=some (.pointer (some ⟨z,0,none⟩))/\(w6.alloc (.cells U 99)).heap[Y]?=some (.cells U 41 (0,0)) from ⟨(u.o.on ((Below.refl _ _).alloc (Nat.le_refl _) _)).m.cellP,(Below.heap_alloc _ _ _ (b_ N.o.2)).trans N.o.2⟩);clear M;refine tkC 7 λK r=>?_;change Oper.wp _ ⟨some 38,_,_,_,_,_⟩ _ _ _ _;refine Fk_ (.tmp 37) rfl rfl Z1.o ?_;refine r.out _ _ bk.o λf=>?_;clear r K;(try simp only[Act.put,aT,aZ,aS]);refine tkC 8 λK r=>?_;change Oper.wp _ ⟨some 39,_,_,_,_,_⟩ _ _ _ _;refine o7_ (.tmp 35) (.tmp 38) rfl rfl u.o.own (show (L.take k).length=k from by rw[List.length_take,<-L1.o];omega) rfl bi.o (by have:=HN.o;omega) (λb hb=>hb.2) λg7 c7 D a4 E a3 a2=>?_;have B:=q_ (u.o.m.turn (Turn.of_grown E) (λb hb=>(u.o.blk b hb.symm).1));have a5:=q_ (show D.heap[Y]?=some (.cells U 41 (0,0)) from (Turn.of_grown E).heap N.o.2 (λe=>by obtain⟨cs,V,_⟩:=u.o.own;exact c8_ V N.o.2 (by decide) e.symm));have a6:=q_ (u.o.more E a3 a2 a4);clear a4 E a3 a2;refine r.out _ _ ⟨B.o.cellP,a5.o⟩ λf=>?_;clear r K;(try simp only[Act.put,aT,aZ,aS]);refine v_ 9 40 (.pointer (some ⟨z,0,none⟩)) f λf=>?_;(try simp only[Act.put,aT,aZ,aS]);refine v_ 10 41 (.pointer (some ⟨z,0,none⟩)) f λf=>?_;(try simp only[Act.put,aT,aZ,aS]);have f7:D.frozen? ⟨z,0,none⟩=false:=Lib.frozen_of_heap B.o.pc 0;have g7:D.cell? ⟨z,0,none⟩=some S:=B.o.cellS;refine tkC 11 λK r=>?_;unfold fr_;go_simp;refine r.out _ _ ⟨a6.o.m.cellP,((Turn.refl (λb=>b=z) D).setCell (p:=⟨z,0,none⟩) (.inr rfl) _).heap a5.o (λe=>by have h1:=x.o.m.c0;have h2:wr.heap.size=Y:=ai.o;have h3:=b_ R.o.m.pc;omega)⟩ λf=>?_;clear r K;(try simp only[Act.put,aT,aZ,aS]);refine⟨wpAnyH_done (by kernel_rfl) ?_ _⟩;clear f;go_wp2_with fail;go_roundw
      case rel=>exact⟨k+1,_,by omega,by go_num,q_ (by rw[g_ HY.o];exact a6.o)⟩
      case measure=>simp[intOf];omega
     ·skip
      change Oper.wp _ ⟨some 37,_,_,_,_,_⟩ _ _ _ _;go_simp;refine (bl.o w5.drew).mono ?_;rintro e w6 ⟨rfl,M⟩;have b5:=q_ (show Below w5.heap.size w5 w6 from aa_ M);have g6:w6.cell? ⟨z,0,none⟩=some S:=(x.o.on b5.o).m.cellS;clear b5;have f:w6.cell? ⟨z+1,0,none⟩=some (.pointer (some ⟨z,0,none⟩))/\w6.heap[Y]?=some (.cells U 41 (0,0)):=⟨(x.o.drew.on M).m.cellP,(M.block Y (b_ ao.o)).trans ao.o⟩;dsimp only;refine r.out _ _ f λf=>?_;clear r K;(try simp only[Act.put,aT,aZ,aS]);have u:=q_ (x.o.drew.on M);have b5:=q_ (show Below wr.heap.size wr w6 from ab.o.trans ((aa_ M).mono ab.o.size));have N:=q_ f;have bk:=q_ (show (w6.alloc (.cells U 99)).cell? ⟨z+1,0,none⟩=some (.pointer (some ⟨z,0,none⟩))/\(w6.alloc (.cells U 99)).heap[Y]?=some (.cells U 41 (0,0)) from ⟨(u.o.on ((Below.refl _ _).alloc (Nat.le_refl _) _)).m.cellP,(Below.heap_alloc _ _ _ (b_ N.o.2)).trans N.o.2⟩);clear M;refine b4_ 4 7 (by kernel_rfl) (by rfl) (by rfl) (λK r=>?_) λK r=>?_
      ·skip
       unfold fr_;go_simp;refine r.out _ _ f λf=>?_;clear r K;(try simp only[Act.put,aT,aZ,aS]);refine tkC 7 λK r=>?_;change Oper.wp _ ⟨some 38,_,_,_,_,_⟩ _ _ _ _;refine Fk_ (.tmp 37) rfl rfl Z1.o ?_;refine r.out _ _ bk.o λf=>?_;clear r K;(try simp only[Act.put,aT,aZ,aS]);refine tkC 8 λK r=>?_;change Oper.wp _ ⟨some 39,_,_,_,_,_⟩ _ _ _ _;refine o7_ (.tmp 35) (.tmp 38) rfl rfl u.o.own (show (L.take k).length=k from by rw[List.length_take,<-L1.o];omega) rfl bi.o (by have:=HN.o;omega) (λb hb=>hb.2) λg7 c7 D a4 E a3 a2=>?_;have B:=q_ (u.o.m.turn (Turn.of_grown E) (λb hb=>(u.o.blk b hb.symm).1));have a5:=q_ (show D.heap[Y]?=some (.cells U 41 (0,0)) from (Turn.of_grown E).heap N.o.2 (λe=>by obtain⟨cs,V,_⟩:=u.o.own;exact c8_ V N.o.2 (by decide) e.symm));have a6:=q_ (u.o.more E a3 a2 a4);clear a4 E a3 a2;refine r.out _ _ ⟨B.o.cellP,a5.o⟩ λf=>?_;clear r K;(try simp only[Act.put,aT,aZ,aS]);refine v_ 9 40 (.pointer (some ⟨z,0,none⟩)) f λf=>?_;(try simp only[Act.put,aT,aZ,aS]);refine v_ 10 41 (.pointer (some ⟨z,0,none⟩)) f λf=>?_;(try simp only[Act.put,aT,aZ,aS]);have f7:D.frozen? ⟨z,0,none⟩=false:=Lib.frozen_of_heap B.o.pc 0;have g7:D.cell? ⟨z,0,none⟩=some S:=B.o.cellS;refine tkC 11 λK r=>?_;unfold fr_;go_simp;refine r.out _ _ ⟨a6.o.m.cellP,((Turn.refl (λb=>b=z) D).setCell (p:=⟨z,0,none⟩) (.inr rfl) _).heap a5.o (λe=>by have h1:=x.o.m.c0;have h2:wr.heap.size=Y:=ai.o;have h3:=b_ R.o.m.pc;omega)⟩ λf=>?_;clear r K;(try simp only[Act.put,aT,aZ,aS]);refine⟨wpAnyH_done (by kernel_rfl) ?_ _⟩;clear f;go_wp2_with fail;go_roundw
       case rel=>exact⟨k+1,_,by omega,by go_num,q_ (by rw[g_ HY.o];exact a6.o)⟩
       case measure=>simp[intOf];omega
      ·skip
       change Oper.wp _ ⟨some 38,_,_,_,_,_⟩ _ _ _ _;refine Fk_ (.tmp 37) rfl rfl Z1.o ?_;refine r.out _ _ bk.o λf=>?_;clear r K;(try simp only[Act.put,aT,aZ,aS]);have gA:(w6.alloc (.cells U 99)).cell? ⟨z,0,none⟩=some S:=(u.o.on ((Below.refl _ _).alloc (Nat.le_refl _) _)).m.cellS;refine tkC 4 λK r=>?_;unfold fr_;go_simp;refine r.out _ _ f λf=>?_;clear r K;(try simp only[Act.put,aT,aZ,aS]);refine tkC 8 λK r=>?_;change Oper.wp _ ⟨some 39,_,_,_,_,_⟩ _ _ _ _;refine o7_ (.tmp 35) (.tmp 38) rfl rfl u.o.own (show (L.take k).length=k from by rw[List.length_take,<-L1.o];omega) rfl bi.o (by have:=HN.o;omega) (λb hb=>hb.2) λg7 c7 D a4 E a3 a2=>?_;have B:=q_ (u.o.m.turn (Turn.of_grown E) (λb hb=>(u.o.blk b hb.symm).1));have a5:=q_ (show D.heap[Y]?=some (.cells U 41 (0,0)) from (Turn.of_grown E).heap N.o.2 (λe=>by obtain⟨cs,V,_⟩:=u.o.own;exact c8_ V N.o.2 (by decide) e.symm));have a6:=q_ (u.o.more E a3 a2 a4);clear a4 E a3 a2;refine r.out _ _ ⟨B.o.cellP,a5.o⟩ λf=>?_;clear r K;(try simp only[Act.put,aT,aZ,aS]);refine v_ 9 40 (.pointer (some ⟨z,0,none⟩)) f λf=>?_;(try simp only[Act.put,aT,aZ,aS]);refine v_ 10 41 (.pointer (some ⟨z,0,none⟩)) f λf=>?_;(try simp only[Act.put,aT,aZ,aS]);have f7:D.frozen? ⟨z,0,none⟩=false:=Lib.frozen_of_heap B.o.pc 0;have g7:D.cell? ⟨z,0,none⟩=some S:=B.o.cellS;refine tkC 11 λK r=>?_;unfold fr_;go_simp;refine r.out _ _ ⟨a6.o.m.cellP,((Turn.refl (λb=>b=z) D).setCell (p:=⟨z,0,none⟩) (.inr rfl) _).heap a5.o (λe=>by have h1:=x.o.m.c0;have h2:wr.heap.size=Y:=ai.o;have h3:=b_ R.o.m.pc;omega)⟩ λf=>?_;clear r K;(try simp only[Act.put,aT,aZ,aS]);refine⟨wpAnyH_done (by kernel_rfl) ?_ _⟩;clear f;go_wp2_with fail;go_roundw
       case rel=>exact⟨k+1,_,by omega,by go_num,q_ (by rw[g_ HY.o];exact a6.o)⟩
       case measure=>simp[intOf];omega
    ·have d1:n=k:=by omega
     subst d1;have HM:=q_ (show LdT w z S L wr from by have h:=R.o;rw[List.take_of_length_le (by rw[<-L1.o];exact Nat.le_refl _)]at h;exact h);have HZ:=q_ (show w.heap.size<=z from HM.o.m.c0);clear R;go_wp2_with fail;refine (Kb_ _).mono ?_;unfold ip_;rintro e w4 ⟨rfl,c4⟩;obtain⟨wc,bb⟩:=a_ (e3_ (ak_ 0));have ZW:=q_ (show wc.size=3 from by rw[<-bb.o];rfl);have d9:=q_ (show wc.all (·.oneCell')=true from by rw[<-bb.o];kernel_rfl);rw[bb.o];have da:=q_ (HM.o.on c4);clear c4;obtain⟨zp,bj⟩:=a_ w4.heap.size;have aq:=q_ (show (w4.alloc (.cells #[.int .i64 0,.int .i64 0,.int .i64 0] 101)).heap[zp]?=some (.cells #[.int .i64 0,.int .i64 0,.int .i64 0] 101 (0,0)) from by rw[<-bj.o];exact heap_alloc_new w4 _);have cy:=q_ (show (Tryz.prog.info? 101).map (·.size)=some wc.size from by rw[ZW.o];kernel_rfl);go_upto_region 10 with ((with_reducible refine z_ 7 ?_);refine r_ rfl 101 _ _ rfl zp (#[.int .i64 0,.int .i64 0,.int .i64 0]) wc 101 (by rw[<-bj.o];rfl) rfl aq.o ZW.o cy.o d9.o ?_;intro w5 av ap)
     rw[bj.o];have ab:=q_ (show Below w4.heap.size w4 w5 from cn_ (by rw[bj.o];exact ap));have x:=q_ (da.o.on ab.o);have bw:=q_ (show w5.heap[zp]?=some (.cells (e3_ (ak_ 0)) 101 (0,0)) from by rw[bb.o];exact av);clear av ap aq;have p5:w5.cell? ⟨z+1,0,none⟩=some (.pointer (some ⟨z,0,none⟩)):=x.o.m.cellP;have g5:w5.cell? ⟨z,0,none⟩=some S:=x.o.m.cellS;go_wp2_with fail;refine (Bb_ (ak_ 0) (dd_ 0) zp w x.o.own (by have:=HN.o;have:=L1.o;omega) (λb hb=>hb.2) x.o.m.hb (λb hb=>by have:=(x.o.blk b hb).1;have:=HZ.o;omega) HG.o.1 HG.o.2 bw.o).mono ?_;rintro e w6 ⟨rfl,L6,cb,cg,bc,bg⟩;have u:=q_ (show LdT w z S L6 w6 from ⟨x.o.m.turn bg (λb hb=>(x.o.blk b hb).1),bc.mono TrS.good λb hb=>⟨hb.1,Nat.lt_of_lt_of_le hb.2 bg.size⟩⟩);have d6:=q_ (bg.heap bw.o (λe=>by obtain⟨cs,V,_⟩:=x.o.own;exact c8_ V bw.o (by decide) e));have az:=q_ (And.intro cb cg);clear p5 g5 cb cg bc bg;have ch:=q_ (show L6.length<=65536 from by rw[az.o.1.length_eq];have:=HN.o;have:=L1.o;omega);have g6:w6.drew.cell? ⟨z,0,none⟩=some S:=u.o.m.cellS;go_upto_region 11 with fail;refine wp_region_held_drew (S:=λW'=>W'.cell? ⟨z+1,0,none⟩=some (.pointer (some ⟨z,0,none⟩))) (by kernel_rfl) u.o.m.drew.cellP λf=>?_;refine V_.o ?_;refine J_ 0 54 (.pointer (some ⟨z,0,none⟩)) f (λw C=>?_) λf=>?_
     ·have p:=C;unfold o_;go_simp
     (try simp only[Act.put,aT,aZ,aS]);refine J_ 1 55 (.pointer (some ⟨z,0,none⟩)) f (λw C=>?_) λf=>?_
     ·have p:=C;unfold o_;go_simp
     (try simp only[Act.put,aT,aZ,aS]);refine v_ 2 56 (.pointer (some ⟨z,0,none⟩)) f λf=>?_;(try simp only[Act.put,aT,aZ,aS]);refine v_ 3 57 (.pointer (some ⟨z,0,none⟩)) f λf=>?_;(try simp only[Act.put,aT,aZ,aS]);refine v_ 5 59 (.func (.func 53) #[] #[.pointer (some ⟨zp,0,none⟩)]) f λf=>?_;(try simp only[Act.put,aT,aZ,aS]);refine tkC 4 λK r=>?_;unfold fr_;go_simp;refine r.out _ _ f λf=>?_;clear r K;(try simp only[Act.put,aT,aZ,aS]);refine tkC 6 λK r=>?_;change Oper.wp _ ⟨some 60,_,_,_,_,_⟩ _ _ _ _;go_simp;refine (vg_ (ak_ 0) (dd_ 0) zp w (w:=w6.drew) u.o.own (by have:=ch.o;omega) u.o.m.hb.drew (λb hb=>by have:=(u.o.blk b hb).1;have:=HZ.o;omega) HG.o.1 HG.o.2 d6.o).mono ?_;rintro e D ⟨s7,rfl,cx,a0,c3⟩;have HT:=q_ (show cpt (w_ (ak_ 0)) L6=ba_ (w_ (ak_ 0)) L from Em_ (a7_ _) az.o.1 (az.o.2.imp λh=>by omega) (λa ha b hb h0=>hl_ (dd_ 0) (c5_ (aj.o a ha) (ae.o a ha)) (c5_ (aj.o b hb) (ae.o b hb)) h0));obtain⟨A7,c7,e7⟩:=a0.form;rw[HT.o]at a0 e7;obtain⟨T,bd⟩:=a_ (ba_ (w_ (ak_ 0)) L);rw[bd.o]at a0 e7;obtain⟨Z,br⟩:=a_ T.length;rw[br.o]at e7;subst e7;have B:=q_ (u.o.m.drew.turn c3 (λb hb=>(u.o.blk b hb).1));have c5:=q_ (show B_ 99 18 TrS D (λb=>z+2<=b/\b<D.heap.size) T (.slice A7 Z c7) from a0.mono TrS.good λb hb=>⟨hb.1,Nat.lt_of_lt_of_le hb.2 c3.size⟩);clear cx a0 c3 g6;dsimp only;refine r.out _ _ B.o.cellP λf=>?_;clear r K;(try simp only[Act.put,aT,aZ,aS]);refine v_ 7 61 (.pointer (some ⟨z,0,none⟩)) f λf=>?_;(try simp only[Act.put,aT,aZ,aS]);refine v_ 8 62 (.pointer (some ⟨z,0,none⟩)) f λf=>?_;(try simp only[Act.put,aT,aZ,aS]);have g7:D.cell? ⟨z,0,none⟩=some S:=B.o.cellS;have f7:D.frozen? ⟨z,0,none⟩=false:=Lib.frozen_of_heap B.o.pc 0;refine tkC 9 λK r=>?_;unfold fr_;go_simp;have ba:=q_ (show LdT w z (.slice A7 Z c7) T (D.setCell ⟨z,0,none⟩ (.slice A7 Z c7)) from ⟨B.o.setS _,(c5.o.turn TrS.good ((Turn.refl (λb=>b=z) D).setCell (p:=⟨z,0,none⟩) (.inr rfl) _) (λb hb=>hb.2) (λb hb e=>by have e:b=z:=e;have:=hb.1;omega)).mono TrS.good λb hb=>⟨hb.1,by have ht:=(Turn.refl (λb=>b=z) D).setCell (p:=⟨z,0,none⟩) (.inr rfl) (.slice A7 Z c7);exact Nat.lt_of_lt_of_le hb.2 ht.size⟩⟩);refine r.out _ _ ba.o.m.cellP λf=>?_;clear r K;(try simp only[Act.put,aT,aZ,aS]);refine⟨wpAnyH_done (by kernel_rfl) ?_ _⟩;clear f g7 f7 B c5
     have ah:=q_ (show (∀t,t∈T->t∈L)/\i5_ (w_ (ak_ 0)) T/\T.length<=65536 from by have hl:=d1_ (a7_ (ak_ 0)) (l:=L) (λa ha b hb h0=>hl_ (dd_ 0) (c5_ (aj.o a ha) (ae.o a ha)) (c5_ (aj.o b hb) (ae.o b hb)) h0);rw[bd.o]at hl;exact⟨λt ht=>(hl.2 t).1 ht,hl.1,by have:=It_ (w_ (ak_ 0)) L6;rw[HT.o,bd.o]at this;have:=ch.o;omega⟩);have c8:=q_ (λt (ht:t∈T)=>c5_ (aj.o t (ah.o.1 t ht)) (ae.o t (ah.o.1 t ht)));have d4:=q_ (λt (ht:t∈T) (n:Nat)=>((ae.o t (ah.o.1 t ht)).get n).fit);have d0:=q_ (show T.Nodup from ah.o.2.1.imp fun {a b} h e=>by rw[e,(a7_ (ak_ 0)).refl]at h;omega);have b8:=q_ (show Z<=65536 from by rw[<-br.o];exact ah.o.2.2);obtain⟨w8,ca⟩:=a_ (D.setCell ⟨z,0,none⟩ (.slice A7 Z c7));rw[ca.o]at ba ⊢;clear ca;obtain⟨zo,bx⟩:=a_ w8.heap.size;obtain⟨w9,bm⟩:=a_ (w8.alloc (.cells #[.string ⟨#[115,112,111]⟩,.string ⟨#[115,111,112]⟩,.string ⟨#[112,115,111]⟩,.string ⟨#[112,111,115]⟩,.string ⟨#[111,115,112]⟩,.string ⟨#[111,112,115]⟩] 9));have d8:=q_ (show LdX w z (.slice A7 Z c7) T s1_ zo 0 [] w9 from by rw[<-bm.o,<-bx.o];exact LdX.start ba.o);go_wp2_with fail;rw[bx.o,bm.o];clear bm bx ba;go_loopw [65] (λs wx=>∃(j:Nat) (ss:Nat->Value),j<=6/\s = .int .i64 (j:Nat)/\Q_ (LdX w z (.slice A7 Z c7) T ss zo j [] wx/\(j<6->ss j = .slice none 0 0))) (λs _=>6-(intOf s).toNat)
     case atStart=>exact⟨0,s1_,by omega,rfl,q_ ⟨d8.o,λ_=>rfl⟩⟩
     case round=>
      obtain⟨j,ss,dn,rfl,R⟩:=hrel;by_cases cj:j<6
      ·have e3:(0:Int)<=j:=by omega
       have e4:(j:Int)<6:=by omega
       have O:=q_ cj;have w3:IntKind.i64.wrap ((j:Int)+1)=(j:Int)+1:=IntWalk.i64_in _ (by omega);have q0:wr.cell? ⟨zo,j,none⟩=some (.string (fe_ j)):=R.o.1.name cj;have df:(⟨zo,0,none⟩:Addr).add j=⟨zo,j,none⟩:=by rw[Addr.add_mid,Nat.zero_add]
       go_wp2_with fail;refine (za_ j O.o _).mono ?_;unfold ip_;rintro e b6 ⟨rfl,bz⟩;have b2:=q_ (R.o.1.on bz);have dc:=q_ (R.o.2 O.o);clear R bz q0;obtain⟨wq,bh⟩:=a_ (e3_ (ak_ j));have ZQ:=q_ (show wq.size=3 from by rw[<-bh.o];rfl);have d5:=q_ (show wq.all (·.oneCell')=true from by rw[<-bh.o];kernel_rfl);rw[bh.o];obtain⟨zq,ar⟩:=a_ b6.heap.size;have ck:=q_ (show (b6.alloc (.cells #[.int .i64 0,.int .i64 0,.int .i64 0] 101)).heap[zq]?=some (.cells #[.int .i64 0,.int .i64 0,.int .i64 0] 101 (0,0)) from by rw[<-ar.o];exact heap_alloc_new b6 _);have d7:=q_ (show (Tryz.prog.info? 101).map (·.size)=some wq.size from by rw[ZQ.o];kernel_rfl);go_upto_region 16 with ((with_reducible refine z_ 12 ?_);refine r_ rfl 101 _ _ rfl zq (#[.int .i64 0,.int .i64 0,.int .i64 0]) wq 101 (by rw[<-ar.o];rfl) rfl ck.o ZQ.o d7.o d5.o ?_;intro b4 c2 bt)
       rw[ar.o];have ak:=q_ (b2.o.on (cn_ (w5:=b4) (by rw[ar.o];exact bt)));have cn:=q_ (show b4.heap[zq]?=some (.cells (e3_ (ak_ j)) 101 (0,0)) from by rw[bh.o];exact c2);have cd:=q_ (show z+2<=zq from by have:=b_ b2.o.m.ph;have h2:b6.heap.size=zq:=ar.o;omega);clear c2 bt ck b2;have di:b4.cell? ⟨z+1,0,none⟩=some (.pointer (some ⟨z,0,none⟩)):=ak.o.m.cellP;have dm:b4.cell? ⟨z,0,none⟩=some (.slice A7 Z c7):=ak.o.m.cellS;go_wp2_with fail;go_loopw [80] (λs wx=>∃(k:Nat) (I:Nat->Value),k<=Z/\s = .int .i64 (k:Nat)/\Q_ (LdX w z (.slice A7 Z c7) T I zo j (List.range k) wx/\(k=0->I j = .slice none 0 0)/\(∀i,i<6->j<i->I i = .slice none 0 0)/\wx.heap[zq]?=some (.cells (e3_ (ak_ j)) 101 (0,0)))) (λs _=>Z-(intOf s).toNat)
       case atStart=>exact⟨0,ss,by omega,rfl,q_ ⟨ak.o,λ_=>dc.o,λi hi au=>by obtain⟨_,_,_,h3⟩:=ak.o.rows i hi (by omega);exact h3 au,cn.o⟩⟩
       case round=>
        obtain⟨k,I,dl,rfl,G⟩:=hrel;by_cases cv:k<Z
        ·have dj:IntKind.i64.wrap ((k:Int)+1)=(k:Int)+1:=IntWalk.i64_in _ (by have:=b8.o;omega);have cl:=q_ cv;have b3:=q_ (show wr.drew.ownsRow 0 3 1 (I j) k (ixC (List.range k)) from by have h:=(G.o.1.rowj O.o).row;rw[List.length_range]at h;exact h);have dg:wr.drew.cell? ⟨z,1+j,none⟩=some (I j):=G.o.1.m.cellJ O.o;have ac:=q_ G.o.1.drew;go_upto_region 19 with fail;refine wp_region_held_drew (S:=λW'=>W'.cell? ⟨z+1,0,none⟩=some (.pointer (some ⟨z,0,none⟩))) (by kernel_rfl) ac.o.m.cellP λf=>?_;refine V_.o ?_;refine J_ 0 83 (.pointer (some ⟨z,0,none⟩)) f (λw C=>?_) λf=>?_
         ·have p:=C;unfold o_;go_simp
         (try simp only[Act.put,aT,aZ,aS]);refine v_ 1 84 (.int .i64 (j:Nat)) f λf=>?_;(try simp only[Act.put,aT,aZ,aS]);refine J_ 2 85 (.pointer (some ⟨z,0,none⟩)) f (λw C=>?_) λf=>?_
         ·have p:=C;unfold o_;go_simp
         (try simp only[Act.put,aT,aZ,aS]);refine v_ 3 86 (.int .i64 (j:Nat)) f λf=>?_;(try simp only[Act.put,aT,aZ,aS]);refine v_ 4 87 (.pointer (some ⟨z,0,none⟩)) f λf=>?_;(try simp only[Act.put,aT,aZ,aS]);refine v_ 5 88 (.pointer (some ⟨z,1,none⟩)) f λf=>?_;(try simp only[Act.put,aT,aZ,aS]);refine J_ 6 89 (.pointer (some ⟨z,1+j,none⟩)) f (λw C=>?_) λf=>?_
         ·exact k_ (ne_ z j O.o w)
         (try simp only[Act.put,aT,aZ,aS]);refine v_ 8 91 (.int .i64 (k:Nat)) f λf=>?_;(try simp only[Act.put,aT,aZ,aS]);refine v_ 11 94 (.pointer (some ⟨z,0,none⟩)) f λf=>?_;(try simp only[Act.put,aT,aZ,aS]);refine v_ 12 95 (.pointer (some ⟨z,1,none⟩)) f λf=>?_;(try simp only[Act.put,aT,aZ,aS]);refine b4_ 7 9 (by kernel_rfl) (by rfl) (by rfl) (λK r=>?_) λK r=>?_
         ·skip
          unfold fr_;go_simp;refine r.out _ _ f λf=>?_;clear r K;(try simp only[Act.put,aT,aZ,aS]);refine tkC 9 λK r=>?_;unfold fr_;go_simp;refine r.out _ _ (show (wr.alloc (.cells #[.int .i64 (k:Nat)] 3)).drew.cell? ⟨z+1,0,none⟩=some (.pointer (some ⟨z,0,none⟩)) from (G.o.1.on ((Below.refl _ _).alloc (Nat.le_refl _) _)).m.drew.cellP) λf=>?_;clear r K;(try simp only[Act.put,aT,aZ,aS]);refine tkC 10 λK r=>?_;change Oper.wp _ ⟨some 93,_,_,_,_,_⟩ _ _ _ _;refine o8_ (.tmp 90) (.tmp 92) rfl (wr:=wr.drew) (k:=k) rfl List.length_range b3.o rfl (by have:=b8.o;have:=cl.o;omega) λa9 a7 a1 ag J a8 af=>?_;have X:=q_ (ac.o.m.turn (Turn.of_grown J) (λb hb=>((ac.o.rowj O.o).blk b hb.symm).1));have aa:=q_ (ac.o.store (v:=.slice (some ⟨a9,0,none⟩) (k+1) a7) (ix':=List.range (k+1)) O.o J a8 af rfl (by rw[List.length_range,List.range_succ];exact ag));have aw:=q_ (show a1.heap[zq]?=some (.cells (e3_ (ak_ j)) 101 (0,0)) from (Turn.of_grown J).heap G.o.2.2.2 (λe=>c8_ b3.o G.o.2.2.2 (by decide) e.symm));have bq:a1.frozen? ⟨z,1+j,none⟩=false:=Lib.frozen_of_heap X.o.pc _;have b0:a1.cell? ⟨z,1+j,none⟩=some (I j):=X.o.cellJ O.o;clear ag J a8 af;refine r.out _ _ X.o.cellP λf=>?_;clear r K;(try simp only[Act.put,aT,aZ,aS]);refine J_ 13 96 (.pointer (some ⟨z,1+j,none⟩)) f (λw C=>?_) λf=>?_
          ·exact k_ (ne_ z j O.o w)
          (try simp only[Act.put,aT,aZ,aS]);refine tkC 14 λK r=>?_;unfold fr_;go_simp;refine r.out _ _ aa.o.m.cellP λf=>?_;clear r K;(try simp only[Act.put,aT,aZ,aS]);refine⟨wpAnyH_done (by kernel_rfl) ?_ _⟩;clear f bq b0;have ay:=q_ (((Turn.refl (λb=>b=z) a1).setCell (p:=⟨z,1+j,none⟩) (.inr rfl) (.slice (some ⟨a9,0,none⟩) (k+1) a7)).heap aw.o (by have:=cd.o;omega));have am:=q_ G.o.2.2.1;clear G;go_wp2_with fail;go_roundw
          case rel=>exact⟨k+1,Ix_ I j (.slice (some ⟨a9,0,none⟩) (k+1) a7),by omega,by go_num,q_ ⟨aa.o,λh=>by omega,λi hi au=>(if_neg (by omega)).trans (am.o i hi au),ay.o⟩⟩
          case measure=>simp[intOf];omega
         ·skip
          unfold fr_;go_simp;refine r.out _ _ (show (wr.alloc (.cells #[.int .i64 (k:Nat)] 3)).drew.cell? ⟨z+1,0,none⟩=some (.pointer (some ⟨z,0,none⟩)) from (G.o.1.on ((Below.refl _ _).alloc (Nat.le_refl _) _)).m.drew.cellP) λf=>?_;clear r K;(try simp only[Act.put,aT,aZ,aS]);have de:(wr.alloc (.cells #[.int .i64 (k:Nat)] 3)).drew.cell? ⟨z,1+j,none⟩=some (I j):=(G.o.1.on ((Below.refl _ _).alloc (Nat.le_refl _) _)).m.drew.cellJ O.o;refine tkC 7 λK r=>?_;unfold fr_;go_simp;refine r.out _ _ f λf=>?_;clear r K;(try simp only[Act.put,aT,aZ,aS]);refine tkC 10 λK r=>?_;change Oper.wp _ ⟨some 93,_,_,_,_,_⟩ _ _ _ _;refine o8_ (.tmp 90) (.tmp 92) rfl (wr:=wr.drew) (k:=k) rfl List.length_range b3.o rfl (by have:=b8.o;have:=cl.o;omega) λa9 a7 a1 ag J a8 af=>?_;have X:=q_ (ac.o.m.turn (Turn.of_grown J) (λb hb=>((ac.o.rowj O.o).blk b hb.symm).1));have aa:=q_ (ac.o.store (v:=.slice (some ⟨a9,0,none⟩) (k+1) a7) (ix':=List.range (k+1)) O.o J a8 af rfl (by rw[List.length_range,List.range_succ];exact ag));have aw:=q_ (show a1.heap[zq]?=some (.cells (e3_ (ak_ j)) 101 (0,0)) from (Turn.of_grown J).heap G.o.2.2.2 (λe=>c8_ b3.o G.o.2.2.2 (by decide) e.symm));have bq:a1.frozen? ⟨z,1+j,none⟩=false:=Lib.frozen_of_heap X.o.pc _;have b0:a1.cell? ⟨z,1+j,none⟩=some (I j):=X.o.cellJ O.o;clear ag J a8 af;refine r.out _ _ X.o.cellP λf=>?_;clear r K;(try simp only[Act.put,aT,aZ,aS]);refine J_ 13 96 (.pointer (some ⟨z,1+j,none⟩)) f (λw C=>?_) λf=>?_
          ·exact k_ (ne_ z j O.o w)
          (try simp only[Act.put,aT,aZ,aS]);refine tkC 14 λK r=>?_;unfold fr_;go_simp;refine r.out _ _ aa.o.m.cellP λf=>?_;clear r K;(try simp only[Act.put,aT,aZ,aS]);refine⟨wpAnyH_done (by kernel_rfl) ?_ _⟩;clear f bq b0;have ay:=q_ (((Turn.refl (λb=>b=z) a1).setCell (p:=⟨z,1+j,none⟩) (.inr rfl) (.slice (some ⟨a9,0,none⟩) (k+1) a7)).heap aw.o (by have:=cd.o;omega));have am:=q_ G.o.2.2.1;clear G;go_wp2_with fail;go_roundw
          case rel=>exact⟨k+1,Ix_ I j (.slice (some ⟨a9,0,none⟩) (k+1) a7),by omega,by go_num,q_ ⟨aa.o,λh=>by omega,λi hi au=>(if_neg (by omega)).trans (am.o i hi au),ay.o⟩⟩
          case measure=>simp[intOf];omega
        ·have cr:Z=k:=by omega
         subst cr;have cz:wr.cell? ⟨z+1,0,none⟩=some (.pointer (some ⟨z,0,none⟩)):=G.o.1.m.cellP;have cw:wr.cell? ⟨z,1+j,none⟩=some (I j):=G.o.1.m.cellJ O.o;have dd:(⟨z,1,none⟩:Addr).add j=⟨z,1+j,none⟩:=Addr.add_mid _ _ _;have ci:=q_ (Bo_ G.o.1 O.o br.o G.o.2.1 G.o.2.2.2 HG.o.1 HG.o.2 c8.o d0.o b8.o);have am:=q_ G.o.2.2.1;clear G;go_wp2_with fail;refine ci.o.mono ?_;rintro e dh ⟨rfl,ix',cf,bo⟩;have co:=q_ (bo.next O.o cf);clear cf bo ci cz cw;go_wp2_with fail;go_roundw
         case rel=>exact⟨j+1,I,by omega,by go_num,q_ ⟨co.o,λh=>am.o (j+1) h (by omega)⟩⟩
         case measure=>simp[intOf];omega
      ·have ct:j=6:=by omega
       subst ct;have dk:wr.cell? ⟨z+1,0,none⟩=some (.pointer (some ⟨z,0,none⟩)):=R.o.1.m.cellP;have db:=q_ (show h8_ L w (.returned (.tuple #[.pointer (some ⟨z,0,none⟩),.int .i64 0])) wr from .inr ⟨by have:=HN.o;have:=L1.o;omega,cm.o,z,rfl,R.o.1.m.hb,by rw[bd.o];exact R.o.1.whole c8.o d4.o ah.o.2.1 ah.o.2.2⟩);clear R;go_wp2_with fail;go_ret2;exact db.o
def Kof (T:List d_) (ix:List Nat):List d_:=ix.map λk=>T.getD k mg_
theorem s3_ (T:List d_) (ix:List Nat):(Kof T ix).length=ix.length:=by unfold Kof;simp
theorem zb_ {T:List d_} {ix:List Nat} {n k:Nat} {t:d_} (h1:ix[n]?=some k) (h2:T[k]?=some t):(Kof T ix)[n]?=some t:=by unfold Kof;rw[List.getElem?_map,h1];simp[h2]
def Mj_ (c:Nat) (W:Way) (s:Value) (d:Nat) (at_ en:Nat->Nat):Array Value:=
 #[.pointer (some ⟨c,0,none⟩),.int .i64 (W.i:Nat),.int .i64 (W.j:Nat),.int .i64 (W.k:Nat),s,.int .i64 (d:Nat),.int .i64 (at_ 0:Nat),.int .i64 (en 0:Nat),.int .i64 (at_ 1:Nat),.int .i64 (en 1:Nat),.int .i64 (at_ 2:Nat),.int .i64 (en 2:Nat),.int .i64 (at_ 3:Nat),.int .i64 (en 3:Nat)]
structure xq_ (F:Nat->Prop) (c:Nat) (j:Nat) (T:List d_) (ix:List Nat) (cs:Nat->Array Value) (S s:Value) (w:World):Prop where
 st:w.cell? ⟨c,0,none⟩=some S
 row:je_ F w cs T S
 nums:ih_ F w ix s
 ixo:li_ (ak_ j) T ix
 fc:F c
 j6:j<6
 scal:∀t,t∈T->bn_ t
 fit:∀t,t∈T->∀n,ag_ (t.get n)
 len:T.length<=65536
structure f5_ (F:Nat->Prop) (q c:Nat) (j:Nat) (T:List d_) (ix:List Nat) (cs:Nat->Array Value) (S s:Value) (d:Nat) (at_ en:Nat->Nat) (w:World):Prop where
 r:xq_ F c j T ix cs S s w
 cur:w.heap[q]?=some (.cells (Mj_ c (ak_ j) s d at_ en) 171 (0,0))
 fq:¬F q
 fl:∀b,F b->b<w.heap.size
section
variable {F:Nat->Prop} {q c j:Nat} {T:List d_} {ix:List Nat} {cs:Nat->Array Value} {S s:Value} {d:Nat} {at_ en:Nat->Nat} {w w':World}
theorem xq_.keep (h:xq_ F c j T ix cs S s w) (e:∀b,F b->w'.heap[b]?=w.heap[b]?):xq_ F c j T ix cs S s w':=
 ⟨(World.cell?_of_block (a:=⟨c,0,none⟩) (e c h.fc)).trans h.st,h.row.keep λ_ f=>World.cell?_of_block (e _ f),h.nums.keep λ_ f=>World.cell?_of_block (e _ f),h.ixo,h.fc,h.j6,h.scal,h.fit,h.len⟩
theorem f5_.turn (h:f5_ F q c j T ix cs S s d at_ en w) {e:Nat->Prop} (ht:Turn e w w') (h1:∀b,F b->¬e b) (h2:¬e q):f5_ F q c j T ix cs S s d at_ en w':=
 ⟨h.r.keep λb hb=>ht.block b (h.fl b hb) (h1 b hb),ht.heap h.cur h2,h.fq,λb hb=>Nat.lt_of_lt_of_le (h.fl b hb) ht.size⟩
theorem f5_.on (h:f5_ F q c j T ix cs S s d at_ en w) (hb:Below w.heap.size w w'):f5_ F q c j T ix cs S s d at_ en w':=
 h.turn (Turn.of_below hb) (λb e h2=>by have:=h.fl b e;have h2:w.heap.size<=b:=h2;omega) (λh2=>by have:=b_ h.cur;have h2:w.heap.size<=q:=h2;omega)
theorem f5_.drew (h:f5_ F q c j T ix cs S s d at_ en w):f5_ F q c j T ix cs S s d at_ en w.drew:=h.on (Below.refl _ _).drew
theorem f5_.c0 (h:f5_ F q c j T ix cs S s d at_ en w):w.cell? ⟨q,0,none⟩=some (.pointer (some ⟨c,0,none⟩)):=cell_of_heap h.cur 0
theorem f5_.c4 (h:f5_ F q c j T ix cs S s d at_ en w):w.cell? ⟨q,4,none⟩=some s:=cell_of_heap h.cur 4
theorem f5_.c5 (h:f5_ F q c j T ix cs S s d at_ en w):w.cell? ⟨q,5,none⟩=some (.int .i64 (d:Nat)):=cell_of_heap h.cur 5
theorem f5_.ca (h:f5_ F q c j T ix cs S s d at_ en w) {e:Nat} (b:e<4):w.cell? ⟨q,6+e*2,none⟩=some (.int .i64 (at_ e:Nat)):=by rcases (show e=0\/e=1\/e=2\/e=3 by omega) with rfl | rfl | rfl | rfl<;>exact cell_of_heap h.cur _
theorem f5_.ce (h:f5_ F q c j T ix cs S s d at_ en w) {e:Nat} (b:e<4):w.cell? ⟨q,6+e*2+1,none⟩=some (.int .i64 (en e:Nat)):=by rcases (show e=0\/e=1\/e=2\/e=3 by omega) with rfl | rfl | rfl | rfl<;>exact cell_of_heap h.cur _
theorem xq_.stand (h:xq_ F c j T ix cs S s w) {n:Nat} (N:n<ix.length):∃(u R p x L k:Nat) (t:d_) (ss:Nat->Value),S = .slice (some ⟨u,0,none⟩) T.length R/\s = .slice (some ⟨p,x,none⟩) ix.length L/\ix[n]?=some k/\T[k]?=some t/\(Kof T ix)[n]?=some t/\k<T.length /\
    (∀w':World,xq_ F c j T ix cs S s w'->w'.cell? ⟨p,x+n,none⟩=some (.int .i64 (k:Nat))/\∀e,e<3->w'.rangeAt u (k*18+e*6) (c_ (t.get e) (ss e)).toList)/\(∀e,e<3->∃A m,ss e = .slice A 0 m):=by
 obtain⟨k,r⟩:∃k,ix[n]?=some k:=⟨_,List.getElem?_eq_getElem N⟩;have o:=h.ixo.lt (List.mem_of_getElem? r);obtain⟨t,ht⟩:∃t,T[k]?=some t:=⟨_,List.getElem?_eq_getElem o⟩;obtain⟨A,m,rfl,V,E⟩:=h.row.form;obtain⟨B,y,rfl,X,J⟩:=h.nums;obtain⟨u,rfl,_,U⟩:=E (by omega);obtain⟨p,x,rfl,_,W⟩:=J (by omega);obtain⟨_,_,ss,G,I⟩:=h.row.el k t ht;refine⟨u,m,p,x,y,k,t,ss,rfl,rfl,r,ht,zb_ r ht,o,λw' D=>⟨?_,λe M i v C=>?_⟩,G⟩
 ·obtain⟨B',z,f,_,l⟩:=D.nums;injection f with f _ _;obtain⟨O,Y,b,_,g⟩:=l (by omega);rw[<-f]at b;injection b with b;injection b with b e4;subst b e4;exact g n k r
 ·obtain⟨Z,z,f,_,l⟩:=D.row.form;injection f with f _ _;obtain⟨O,b,_,g⟩:=l (by omega);rw[<-f]at b;injection b with b;injection b with b;subst b;have hi:i<6:=(List.getElem?_eq_some_iff.1 C).1;rw[show k*18+e*6+i=k*18+(e*6+i) by omega,g k o (e*6+i) (by omega),I,D_ t ss e M i hi,<-Array.getElem?_toList];exact C
end
theorem nf_ (r o n b a:Nat) (h:a<n) (w:World):(Instr.indexAt 94 (.slice (some ⟨r,o,none⟩) n b) (.int .i64 (a:Nat))).run Tryz.prog w = .ok (.pointer (some ⟨r,o+a,none⟩)) w:=by
 have f:(0:Int)<=a:=by omega
 have g:(a:Int)<n:=by omega
 have e:(⟨r,o,none⟩:Addr).add a=⟨r,o+a,none⟩:=Addr.add_mid _ _ _;go_simp
theorem f6_ (r o n:Nat) (f:n<3) (w:World):(Instr.indexAt 99 (.pointer (some ⟨r,o,none⟩)) (.int .i64 (n:Nat))).run Tryz.prog w = .ok (.pointer (some ⟨r,o+n*6,none⟩)) w:=by
 have g:(0:Int)<=n:=by omega
 have e:(n:Int)<3:=by omega
 have b:(⟨r,o,none⟩:Addr).add (n*6)=⟨r,o+n*6,none⟩:=Addr.add_mid _ _ _;go_simp
theorem am_:(Tryz.prog.info? 39).map (·.size)=some 6:=by kernel_rfl
section
variable {P:Program} {md:Region.Mode} {ops:Array Oper} {Q:Exit->Act->World->Prop} {S:World->Prop} {fuel:Nat} {listed:Array Bool} {a:Act} {w:World}
theorem l_ (i d:Nat) (b:ops[i]?.map (·.dst)=some (some d)) (e:b3_ ops i a=some false) (l:Region.noSelect ops=true) (g:Region.free md ops listed i=true) (m:(Region.ready md ops listed).contains i=true)
    (k:∀c a w,Q (.panic c) (a.put (some d) undef) w->Q (.panic c) a w) (f:S w)
    (h:S w->V_ (wpAnyH P md ops Q S fuel (listed.setIfInBounds i true) (a.put (some d) undef) w)):V_ (wpAnyH P md ops Q S (fuel+1) listed a w):=by
 unfold b3_ at e
 cases ho:ops[i]? with
 | none=>rw[ho]at b;cases b
 | some o=>
  rw[ho]at b e;simp only[Option.map_some,Option.some.injEq]at b e;exact⟨wpAnyH_take ho l g m (λc a w h=>k c a w (by rw[<-b];exact h)) (.inr ⟨e,rfl⟩) f (by rw[b];exact (h f).o)⟩
end
structure K7_ (q gp gv b1 b2 b3 low:Nat) (w:World):Prop where
 past:w.cell? ⟨b1,0,none⟩=some (.func (.func gp) #[] #[.pointer (some ⟨gv,0,none⟩)])
 key:w.cell? ⟨b2,0,none⟩=some (.func (.func 109) #[.pointer (some ⟨q,0,none⟩)] #[])
 low:w.cell? ⟨b3,0,none⟩=some (.int .i64 (low:Nat))
theorem K7_.on {q g i b f e low:Nat} {w w':World} (h:K7_ q g i b f e low w) (hb:Below w.heap.size w w'):K7_ q g i b f e low w':=
 ⟨(hb.cell (p:=⟨b,0,none⟩) (a2_ h.past)).trans h.past,(hb.cell (p:=⟨f,0,none⟩) (a2_ h.key)).trans h.key,(hb.cell (p:=⟨e,0,none⟩) (a2_ h.low)).trans h.low⟩
end Go.Proofs.YtefhfadjajcmkaaGreatDoor
