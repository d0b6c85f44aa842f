/- Rows of plain elements: one is stored. (Parts of YO.) -/
import Derived.Test.YtefhfadjajcmkaaGreatDoorK5
import Derived.Shelf.Slices.In.SortNone
set_option linter.unusedVariables false
set_option linter.unusedSimpArgs false
set_option maxRecDepth 100000
set_option maxHeartbeats 64000000
namespace Go.Proofs.YtefhfadjajcmkaaGreatDoor
open Bool renaming and_eq_true→YJ
open Go.Ending renaming returned→XW
open Go.RowKit.Below renaming refl→XV
open Go.RowKit renaming Below→XU
open Nat renaming le_refl→XJ,lt_of_lt_of_le→XY,le_trans→YK
open Go.Obj renaming cells→XX
open List renaming getElem?_eq_getElem→XQ,mem_of_getElem?→YQ
open Tryz renaming prog→QW,underlying39→YZ
open Go renaming World→QV,Value→XZ
open Go.IntKind renaming i64→QU
open Option renaming some→QJ,none→QY
open Go.Lib renaming cell_of_heap→QX
open Go.Value renaming slice→QQ,string→QZ,int→QK,bool→XK,pointer→YX,tuple→YY
open Go.Lib (cell_of_heap)
section
open Go Go.RowKit Go.Maps
structure n0_ (F:Nat->Prop) (w:QV) (cs:Nat->Array XZ) (T:List e_) (S:XZ):Prop where
 el:ElT T cs
 form:∃A cap,S = QQ A T.length cap/\T.length<=cap/\(0<T.length->∃r,A=QJ ⟨r,0,QY⟩/\F r/\∀a,a<T.length->∀j,j<18->w.cell? ⟨r,a*18+j,QY⟩=(cs a)[j]?)
def nz_ (F:Nat->Prop) (w:QV) (ix:List Nat) (s:XZ):Prop:=
 ∃A cap,s = QQ A ix.length cap/\ix.length<=cap/\(0<ix.length->∃r o,A=QJ ⟨r,o,QY⟩/\F r/\∀a k,ix[a]?=QJ k->w.cell? ⟨r,o+a,QY⟩=QJ (QK QU (k:Nat)))
section
variable {F F':Nat->Prop} {w w':QV} {cs:Nat->Array XZ} {T:List e_} {S s:XZ} {ix:List Nat}
theorem n0_.keep (h:n0_ F w cs T S) (C:∀p:Addr,F p.block->w'.cell? p=w.cell? p):n0_ F w' cs T S:=by obtain⟨h0,A,cap,e,h1,h2⟩:=h;refine⟨h0,A,cap,e,h1,λD=>?_⟩;obtain⟨r,f,b,z⟩:=h2 D;exact⟨r,f,b,λa x j B=>(C ⟨r,a*18+j,QY⟩ b).trans (z a x j B)⟩
theorem n0_.mono (h:n0_ F w cs T S) (z:∀b,F b->F' b):n0_ F' w cs T S:=by obtain⟨h0,A,cap,e,h1,h2⟩:=h;refine⟨h0,A,cap,e,h1,λC=>?_⟩;obtain⟨r,f,x,B⟩:=h2 C;exact⟨r,f,z _ x,B⟩
theorem nz_.keep (h:nz_ F w ix s) (B:∀p:Addr,F p.block->w'.cell? p=w.cell? p):nz_ F w' ix s:=by obtain⟨A,cap,e,h1,h2⟩:=h;refine⟨A,cap,e,h1,λC=>?_⟩;obtain⟨r,o,x,b,z⟩:=h2 C;exact⟨r,o,x,b,λa k f=>(B ⟨r,o+a,QY⟩ b).trans (z a k f)⟩
theorem nz_.mono (h:nz_ F w ix s) (z:∀b,F b->F' b):nz_ F' w ix s:=by obtain⟨A,cap,e,h1,h2⟩:=h;refine⟨A,cap,e,h1,λC=>?_⟩;obtain⟨r,o,f,x,B⟩:=h2 C;exact⟨r,o,f,z _ x,B⟩
end
structure i1_ (F:Nat->Prop) (w:QV) (c:Nat) (T:List e_):Prop where
 cells:∃(S:XZ) (ss:Nat->XZ) (cs:Nat->Array XZ),w.heap[c]?=QJ (XX #[S,ss 0,ss 1,ss 2,ss 3,ss 4,ss 5] 97 (0,0))/\n0_ F w cs T S/\∀j,j<6->∃ix:List Nat,mg_ (ae_ j) T ix/\nz_ F w ix (ss j)
 fc:F c
 scal:∀t,t∈T->cn_ t
 fit:∀t,t∈T->∀n,bt_ (t.get n)
 rise:j5_ (s_ (ae_ 0)) T
 len:T.length<=65536
theorem i1_.keep {F:Nat->Prop} {w w':QV} {c:Nat} {T:List e_} (h:i1_ F w c T) (e:∀b,F b->w'.heap[b]?=w.heap[b]?):i1_ F w' c T:=by obtain⟨S,ss,cs,h1,h2,r⟩:=h.cells;refine⟨⟨S,ss,cs,(e c h.fc).trans h1,h2.keep λp f=>World.cell?_of_block (e _ f),λj x=>?_⟩,h.fc,h.scal,h.fit,h.rise,h.len⟩;obtain⟨ix,q1,q2⟩:=r j x;exact⟨ix,q1,q2.keep λp f=>World.cell?_of_block (e _ f)⟩
def k0_ (L:List e_) (w:QV) (e:Ending) (w':QV):Prop:=
 (¬(L.length<=65536/\L.all cx_=true)/\e = XW (YY #[YX QY,QK QU 20])/\XU w.heap.size w w') \/
 (L.length<=65536/\L.all cx_=true/\∃c,e = XW (YY #[YX (QJ ⟨c,0,QY⟩),QK QU 0])/\XU w.heap.size w w'/\i1_ (λb=>w.heap.size<=b/\b<w'.heap.size) w' c (au_ (s_ (ae_ 0)) L))
def L3_ (ss:Nat->XZ) (j:Nat) (v:XZ):Nat->XZ:=λi=>if i=j then v else ss i
theorem uo_ (z j:Nat) (b:j<6) (w:QV):(Instr.indexAt 95 (YX (some ⟨z,1,none⟩)) (QK QU (j:Nat))).run QW w = .ok (YX (some ⟨z,1+j,none⟩)) w:=by rcases (show j=0\/j=1\/j=2\/j=3\/j=4\/j=5 by omega) with rfl | rfl | rfl | rfl | rfl | rfl<;>kernel_rfl
section
variable {w0 wx w':QV} {c:Nat} {S:XZ} {ss:Nat->XZ}
theorem LdM.cellJ (h:LdM w0 c S ss wx) {j:Nat} (b:j<6):wx.cell? ⟨c,1+j,none⟩=some (ss j):=by rcases (show j=0\/j=1\/j=2\/j=3\/j=4\/j=5 by omega) with rfl | rfl | rfl | rfl | rfl | rfl<;>exact QX h.pc _
theorem LdM.setJ (h:LdM w0 c S ss wx) {j:Nat} (r:j<6) (v:XZ):LdM w0 c S (L3_ ss j v) (wx.setCell ⟨c,1+j,none⟩ v):=by have ht:=(Turn.refl (λb=>b=c) wx).setCell (p:=⟨c,1+j,none⟩) (.inr rfl) v;refine⟨h.hb.trans ⟨ht.os,ht.tape,ht.output,ht.size,λk f=>ht.block k (XY f h.hb.size) (λe=>by have:=h.c0;omega)⟩,h.c0,ht.heap h.ph (by show ¬c+1=c;omega),?_⟩;rcases (show j=0\/j=1\/j=2\/j=3\/j=4\/j=5 by omega) with rfl | rfl | rfl | rfl | rfl | rfl<;>exact heap_setCell_same wx c _ _ _ v h.pc
end
structure eh_ (c:Nat) (s:XZ) (ix:List Nat) (wx:QV):Prop where
 row:wx.ownsRow 0 3 1 s ix.length (ixC ix)
 blk:∀b,s.ownBlock=QJ b->c+2<=b/\b<wx.heap.size
theorem eh_.nil (c:Nat) (wx:QV):eh_ c (QQ none 0 0) [] wx:=⟨World.ownsRow_nil _ _ _ _,λb h=>by cases h⟩
theorem eh_.turn {c:Nat} {s:XZ} {ix:List Nat} {wx w':QV} (h:eh_ c s ix wx) {T:Nat->Prop} (ht:Turn T wx w') (e:∀b,s.ownBlock=QJ b->¬T b):eh_ c s ix w':=
 ⟨ht.owns h.row e,λb hb=>⟨(h.blk b hb).1,XY (h.blk b hb).2 ht.size⟩⟩
theorem eh_.rd {c:Nat} {s:XZ} {ix:List Nat} {wx:QV} {F:Nat->Prop} (h:eh_ c s ix wx) (A:∀b,c+2<=b->b<wx.heap.size->F b):nz_ F wx ix s:=by
 rcases h.row.2 with⟨e,h0⟩ | ⟨g,cp,B,e,_,I,h1,h2,C,D⟩
 ·exact⟨QY,0,by rw[e,h0],by omega,λx=>absurd x (by omega)⟩
 ·refine⟨QJ ⟨g,0,QY⟩,cp,e,h1,λx=>⟨g,0,rfl,?_,λa k r=>?_⟩⟩
  ·obtain⟨q1,q2⟩:=h.blk g (by rw[e];rfl);exact A g q1 q2
  ·have hi:=(List.getElem?_eq_some_iff.1 r).1;have f:=h.row;rw[e]at f;have z:=f.cellAt a (by omega);rw[Nat.zero_add,z];unfold ixC;rw[List.getElem?_map,r];rfl
structure LdX (w0:QV) (c:Nat) (S:XZ) (T:List e_) (ss:Nat->XZ) (zo:Nat) (j:Nat) (ixj:List Nat) (wx:QV):Prop where
 m:LdM w0 c S ss wx
 own:D_ 99 18 TrS wx (λb=>c+2<=b/\b<wx.heap.size) T S
 names:wx.heap[zo]?=QJ (XX #[QZ (gg_ 0),QZ (gg_ 1),QZ (gg_ 2),QZ (gg_ 3),QZ (gg_ 4),QZ (gg_ 5)] 9 (0,0))
 zo2:c+2<=zo
 rows:∀i,i<6->i≠j->∃ix,eh_ c (ss i) ix wx/\(i<j->mg_ (ae_ i) T ix)/\(j<i->ss i = QQ QY 0 0)
 rowj:j<6->eh_ c (ss j) ixj wx
 sep:∀i i',i<6->i'<6->i≠i'->∀b,(ss i).ownBlock=QJ b->(ss i').ownBlock≠QJ b
section
variable {w0 wx w':QV} {c zo j:Nat} {S:XZ} {T:List e_} {ss:Nat->XZ} {ixj:List Nat}
theorem LdX.sblk (h:LdX w0 c S T ss zo j ixj wx):∀b,S.ownBlock=QJ b->c+2<=b/\b<wx.heap.size:=by obtain⟨cs,_,_,e,_⟩:=h.own;exact e
theorem LdX.turn (h:LdX w0 c S T ss zo j ixj wx) {e:Nat->Prop} (ht:Turn e wx w') (h1:∀b,e b->c+2<=b) (h2:∀b,S.ownBlock=QJ b->¬e b) (B:¬e zo) (C:∀i,i<6->i≠j->∀b,(ss i).ownBlock=QJ b->¬e b) (D:j<6->eh_ c (ss j) ixj w'):LdX w0 c S T ss zo j ixj w':=by
 refine⟨h.m.turn ht h1,?_,ht.heap h.names B,h.zo2,λi hi f=>?_,D,h.sep⟩
 ·obtain⟨cs,r,I,z,J⟩:=h.own;exact⟨cs,ht.owns r h2,I,λg A=>⟨(z g A).1,XY (z g A).2 ht.size⟩,λi x L=>J i x L⟩
 ·obtain⟨ix,q1,q2,M⟩:=h.rows i hi f;exact⟨ix,q1.turn ht (C i hi f),q2,M⟩
theorem LdX.on (h:LdX w0 c S T ss zo j ixj wx) (hb:XU wx.heap.size wx w'):LdX w0 c S T ss zo j ixj w':=by
 have x:=b_ h.m.ph;refine h.turn (Turn.of_below hb) (λb hb=>by have hb:wx.heap.size<=b:=hb;omega) (λb hb h2=>?_) (λh2=>?_) (λi hi f b hb h2=>?_) λr=>?_
 ·have:=(h.sblk b hb).2;have h2:wx.heap.size<=b:=h2;omega
 ·have:=b_ h.names;have h2:wx.heap.size<=zo:=h2;omega
 ·obtain⟨ix,q1,_⟩:=h.rows i hi f;have:=(q1.blk b hb).2;have h2:wx.heap.size<=b:=h2;omega
 ·exact (h.rowj r).turn (Turn.of_below hb) (λb e h2=>by have:=((h.rowj r).blk b e).2;have h2:wx.heap.size<=b:=h2;omega)
theorem LdX.drew (h:LdX w0 c S T ss zo j ixj wx):LdX w0 c S T ss zo j ixj wx.drew:=h.on (XV _ _).drew
theorem LdX.store {v:XZ} {ix':List Nat} {g:Nat} {wr A:QV} (h:LdX w0 c S T ss zo j ixj wr) (z:j<6) (hg:wr.grownBy A (ss j).ownBlock) (hl:(ss j).ownBlock=QJ g\/wr.heap.size<=g) (Z:g<A.heap.size) (M:v.ownBlock=QJ g) (ho:A.ownsRow 0 3 1 v ix'.length (ixC ix')) :
    LdX w0 c S T (L3_ ss j v) zo j ix' (A.setCell ⟨c,1+j,QY⟩ v):=by
 have r:=Turn.of_grown hg;have a2:c+2<=wr.heap.size:=by have:=b_ h.m.ph;omega
 have Y:c+2<=g:=by
  rcases hl with h1 | h1
  ·exact ((h.rowj z).blk g h1).1
  ·omega
 have D:∀i,i<6->i≠j->∀b,(ss i).ownBlock=QJ b->¬QJ b=(ss j).ownBlock:=λi hi f b hb e=>h.sep i j hi z f b hb e.symm;have a1:LdM w0 c S ss A:=h.m.turn r (λb hb=>((h.rowj z).blk b hb.symm).1);have ht:=(Turn.refl (λb=>b=c) A).setCell (p:=⟨c,1+j,QY⟩) (.inr rfl) v;refine⟨a1.setJ z v,?_,?_,h.zo2,λi hi f=>?_,λ_=>?_,λi L hi N B b hb=>?_⟩
 ·obtain⟨cs,J,h6,V,hr⟩:=h.own;have B:∀b,S.ownBlock=QJ b->¬QJ b=(ss j).ownBlock:=λb hb e=>jh_ J (h.rowj z).row (by decide) b e.symm hb;have W:∀b,S.ownBlock=QJ b->¬b=c:=λb hb e=>by have:=(V b hb).1;omega
  exact⟨cs,ht.owns (r.owns J B) W,h6,λq I=>⟨(V q I).1,XY (XY (V q I).2 r.size) ht.size⟩,λi x hx=>hr i x hx⟩
 ·have h7:A.heap[zo]?=_:=r.heap h.names (λe=>cj_ (h.rowj z).row h.names (by decide) e.symm);exact ht.heap h7 (by have:=h.zo2;omega)
 ·obtain⟨ix,q1,q2,q3⟩:=h.rows i hi f;refine⟨ix,?_,q2,λa0=>?_⟩
  ·show eh_ c (if i=j then v else ss i) ix _
   rw[if_neg f];exact (q1.turn r (D i hi f)).turn ht (λb hb e=>by have:=(q1.blk b hb).1;omega)
  ·show (if i=j then v else ss i)=_
   rw[if_neg f];exact q3 a0
 ·show eh_ c (if j=j then v else ss j) ix' _
  rw[if_pos rfl];refine⟨ht.owns ho (λb hb e=>?_),λb hb=>?_⟩
  ·rw[M]at hb;injection hb with hb;omega
  ·rw[M]at hb;injection hb with hb;subst hb;exact⟨Y,XY Z ht.size⟩
 ·have hb:(if i=j then v else ss i).ownBlock=QJ b:=hb
  show (if L=j then v else ss L).ownBlock≠QJ b
  have C:∀q,q<6->q≠j->(ss q).ownBlock≠QJ g:=λq I O e=>by
   rcases hl with h1 | h1
   ·exact h.sep q j I z O g e h1
   ·obtain⟨ix,q1,_⟩:=h.rows q I O;have:=(q1.blk g e).2;omega
  by_cases U:i=j
  ·rw[if_pos U,M]at hb;injection hb with hb;subst hb;rw[if_neg (by omega)];exact C L N (by omega)
  ·rw[if_neg U]at hb;by_cases X:L=j
   ·rw[if_pos X,M];intro e;injection e with e;subst e;exact C i hi U hb
   ·rw[if_neg X];exact h.sep i L hi N B b hb
theorem LdX.next (h:LdX w0 c S T ss zo j ixj wx) (r:j<6) (x:mg_ (ae_ j) T ixj):LdX w0 c S T ss zo (j+1) [] wx:=by
 refine⟨h.m,h.own,h.names,h.zo2,λi hi z=>?_,λf=>?_,h.sep⟩
 ·by_cases e:i=j
  ·subst e;exact⟨ixj,h.rowj r,λ_=>x,λh=>by omega⟩
  ·obtain⟨ix,q1,q2,b⟩:=h.rows i hi e;exact⟨ix,q1,λh=>q2 (by omega),λh=>b (by omega)⟩
 ·obtain⟨ix,q1,q2,b⟩:=h.rows (j+1) f (by omega);rw[b (by omega)];exact eh_.nil c wx
theorem LdX.start {w0 wx:QV} {c:Nat} {S:XZ} {T:List e_} (h:LdT w0 c S T wx):LdX w0 c S T us_ wx.heap.size 0 [] (wx.alloc (XX #[QZ (gg_ 0),QZ (gg_ 1),QZ (gg_ 2),QZ (gg_ 3),QZ (gg_ 4),QZ (gg_ 5)] 9)):=by have hb:XU wx.heap.size wx (wx.alloc (XX #[QZ (gg_ 0),QZ (gg_ 1),QZ (gg_ 2),QZ (gg_ 3),QZ (gg_ 4),QZ (gg_ 5)] 9)):=(XV _ _).alloc (XJ _) _;have h2:=h.on hb;have e:=b_ h.m.ph;exact⟨h2.m,h2.own,heap_alloc_new wx _,by omega,λi _ _=>⟨[],eh_.nil ..,λh=>by omega,λ_=>rfl⟩,λ_=>eh_.nil ..,λ_ _ _ _ _ b hb=>by cases hb⟩
theorem LdX.name (h:LdX w0 c S T ss zo j ixj wx) (b:j<6):wx.cell? ⟨zo,j,none⟩=some (QZ (gg_ j)):=by rcases (show j=0\/j=1\/j=2\/j=3\/j=4\/j=5 by omega) with rfl | rfl | rfl | rfl | rfl | rfl<;>exact QX h.names _
theorem LdX.stc {r n cap g:Nat} {W:Way} (h:LdX w0 c (QQ (QJ ⟨r,0,QY⟩) n cap) T ss zo j ixj wx) (A:wx.heap[g]?=QJ (XX (gf_ W) 101 (0,0))) :
    ∃cs,(∀a t,T[a]?=QJ t->cn_ t/\(∀n,bt_ (t.get n))/\∃ss,cs a=K_ t ss)/\StC (c+1) c r n cap g W cs wx:=by
 obtain⟨cs,e,f,_⟩:=I6_ h.own;refine⟨cs,λa t ht=>?_,h.m.cellP,h.m.cellS,λa z q B=>?_,A⟩
 ·obtain⟨q1,q2,s,_,C⟩:=e a t ht;exact⟨q1,q2,s,C⟩
 ·obtain⟨b,h1,h2,x⟩:=f.blk;rw[cell_of_row wx r (a*18+q) b _ _ h1];exact x a z q B
theorem LdX.sorted {ix':List Nat} (h:LdX w0 c S T ss zo j ixj wx) (f:j<6) (ht:Turn (λb=>(ss j).ownBlock=QJ b) wx w') (I:w'.ownsRow 0 3 1 (ss j) ix'.length (ixC ix')):LdX w0 c S T ss zo j ix' w':=by
 have hb:LdX w0 c S T ss zo j ix' w':=by
  have D:LdX w0 c S T ss zo j ixj wx:=h;refine⟨h.m.turn ht (λb hb=>((h.rowj f).blk b hb).1),?_,ht.heap h.names (λe=>cj_ (h.rowj f).row h.names (by decide) e),h.zo2,λi hi z=>?_,λ_=>⟨I,λb hb=>⟨((h.rowj f).blk b hb).1,XY ((h.rowj f).blk b hb).2 ht.size⟩⟩,h.sep⟩
  ·obtain⟨cs,r,C,A,J⟩:=D.own;exact⟨cs,ht.owns r (λb hb e=>jh_ r (h.rowj f).row (by decide) b e hb),C,λg B=>⟨(A g B).1,XY (A g B).2 ht.size⟩,λi x L=>J i x L⟩
  ·obtain⟨ix,q1,q2,M⟩:=h.rows i hi z;exact⟨ix,q1.turn ht (λb hb e=>h.sep i j hi f z b hb e),q2,M⟩
 exact hb
theorem Ei_ {B:Option Addr} {x C g:Nat} (h:LdX w0 c (QQ B x C) T ss zo j (List.range x) wx) (J:j<6) (D:T.length=x) (L:x=0->ss j = QQ QY 0 0) (X:wx.heap[g]?=QJ (XX (gf_ (ae_ j)) 101 (0,0))) (O:aa_ w0) (U:b4_ w0)
    (hs:∀t,t∈T->cn_ t) (W:T.Nodup) (hn:x<=65536) :
    Calls QW 54 #[ss j,.func (.func 55) #[] #[YX (QJ ⟨c+1,0,QY⟩),YX (QJ ⟨g,0,QY⟩)]] wx λe w'=>e = XW (YY #[])/\∃ix',mg_ (ae_ j) T ix'/\LdX w0 c (QQ B x C) T ss zo j ix' w':=by
 by_cases V:x=0
 ·subst V;have M:T=[]:=List.eq_nil_of_length_eq_zero D;subst M;rw[L rfl];refine (AnyF.slices_SortFunc_none { Tryz.sortI with } QY 0 _ wx).mono λe w' ⟨I,hw⟩=>⟨I,[],⟨List.Perm.refl _,List.Pairwise.nil⟩,?_⟩;rw[hw];exact h
 ·obtain⟨r,rfl⟩:∃r,B=QJ ⟨r,0,QY⟩:=by obtain⟨cs,f,_⟩:=h.own;obtain⟨b,cp,e,_⟩:=World.ownsRow.form f (by omega);injection e with e _ _;exact⟨b,e⟩
  obtain⟨cs,N,a1⟩:=h.stc X;have f:=(h.rowj J).row;have A:=(h.rowj J).blk;have a3:=h.m.c0;refine (Ao_ (ae_ j) (dz_ j) T (c+1) c r x C g cs w0 D N f (λk hk=>List.mem_range.1 hk) (by simp;omega) (.inl (by omega)) a1 h.m.hb (λb hb=>by have:=(A b hb).1;omega) (λb hb=>?_) O U).mono λe w' ⟨I,ix',Y,Z,a0,ht⟩=>⟨I,ix',Ok_ (dz_ j) hs W (by rw[D];exact Y) Z,h.sorted J ht a0⟩;have h1:=(A b hb).1;refine⟨by omega,by omega,λe=>?_,λe=>?_⟩
  ·obtain⟨a2,z,_⟩:=h.own;exact jh_ z f (by decide) b hb (by rw[e];rfl)
  ·exact cj_ f X (by decide) (by rw[hb,e])
theorem LdX.whole (h:LdX w0 c S T ss zo 6 ixj wx) (X:∀t,t∈T->cn_ t) (V:∀t,t∈T->∀n,bt_ (t.get n)) (z:j5_ (s_ (ae_ 0)) T) (W:T.length<=65536):i1_ (λb=>w0.heap.size<=b/\b<wx.heap.size) wx c T:=by
 have h0:=h.m.c0;obtain⟨A,cap,rfl⟩:=h.own.form
 have f:∃cs,n0_ (λb=>w0.heap.size<=b/\b<wx.heap.size) wx cs T (QQ A T.length cap):=by
  by_cases L:0<T.length
  ·obtain⟨r,rfl⟩:∃r,A=QJ ⟨r,0,QY⟩:=by obtain⟨cs,f,_⟩:=h.own;obtain⟨b,cp,e,_⟩:=World.ownsRow.form f L;injection e with e _ _;exact⟨b,e⟩
   obtain⟨cs,J,N,_,M,_,C⟩:=I6_ h.own;obtain⟨B,h1,h2,O⟩:=N.blk;exact⟨cs,J,_,cap,rfl,M,λ_=>⟨r,rfl,⟨by omega,C.2⟩,λa U j x=>by rw[cell_of_row wx r (a*18+j) B _ _ h1];exact O a U j x⟩⟩
  ·obtain⟨cs,f,Z,hF,z⟩:=h.own;exact⟨cs,z,A,cap,rfl,sy_ f,λh=>absurd h L⟩
 obtain⟨cs,I⟩:=f;refine⟨⟨_,ss,cs,h.m.pc,I,λj x=>?_⟩,⟨h0,b_ h.m.pc⟩,X,V,z,W⟩;obtain⟨ix,q1,q2,_⟩:=h.rows j x (by omega);exact⟨ix,q2 x,q1.rd λb Y D=>⟨by omega,D⟩⟩
end
theorem Ke_ (B C D I J a5 L M N O b e f h r x z A:XZ) (w:QV):(Instr.buildSlice 93 1 #[(0,.agg #[B,C,D,I,J,a5,L,M,N,O,b,e,f,h,r,x,z,A])]).run QW w = .ok (QQ (QJ ⟨w.heap.size,0,QY⟩) 1 1) (w.alloc (XX #[B,C,D,I,J,a5,L,M,N,O,b,e,f,h,r,x,z,A] 99)):=by kernel_rfl
theorem M7_ (c:Array XZ) (b:c.size=18) (w:QV):(Instr.buildSlice 93 1 #[(0,.agg c)]).run QW w = .ok (QQ (QJ ⟨w.heap.size,0,QY⟩) 1 1) (w.alloc (XX c 99)):=by
 obtain⟨l⟩:=c;match l,b with
 | [a0,a1,a2,a3,a4,a5,a6,a7,a8,a9,a10,a11,a12,a13,a14,a15,a16,a17],_=>exact Ke_ a0 a1 a2 a3 a4 a5 a6 a7 a8 a9 a10 a11 a12 a13 a14 a15 a16 a17 w
theorem Jv_ {op:Oper} {a:Act} {K:Act->QV->Prop} {Q:Exit->Act->QV->Prop} {w:QV} (x:Operand) (e:op.op = .buildSlice 93 1 #[(0,x)]) {c:Array XZ} (f:a.eval x = .agg c) (b:c.size=18) (h:K (a.put op.dst (.slice (QJ ⟨w.heap.size,0,QY⟩) 1 1)) (w.alloc (.cells c 99))):op.wp QW a w K Q:=by unfold Oper.wp execOp;simp only[e,List.map_toArray,List.map_cons,List.map_nil,f,Sem.run_bind,Sem.run_pure,M7_ c b w,Result.andThen_ok];exact h
theorem ec_ {v:g_} (h:ah_ v):v.list=[]:=by rcases ca_ h with⟨_,e⟩ | ⟨_,e⟩ | ⟨_,_,e⟩ | ⟨_,e⟩<;>(rw[e];rfl)
theorem N1_ {t:e_} (h:cx_ t=true) (f:OkT t) {w:QV} {F:Nat->Prop} {ss:Nat->XZ} (x:∀i,i<3->VRd w F (t.get i) (.agg (c_ (t.get i) (ss i)))):(∀i,i<3->∃A cap,ss i = QQ A 0 cap)/\∀w F,TrS w F t (K_ t ss):=by
 have r:=bv_ h f
 have b:∀i,i<3->∃A cap,ss i = QQ A 0 cap:=λi hi=>by
  obtain⟨A,cap,e,_,_⟩:=(x i hi).inv;injection e with e;have:=congrArg (λa:Array XZ=>a[5]?) e;rw[ec_ (r.get i)]at this;exact⟨A,cap,by simpa [c_] using this⟩
 exact⟨b,λ_ _=>⟨r,λn=>(f.get n).fit,ss,b,rfl⟩⟩
theorem H0_ {w w2:QV} (hb:XU w.heap.size w w2):LdT w w2.heap.size (QQ QY 0 0) [] ((w2.alloc (XX #[QQ QY 0 0,QQ QY 0 0,QQ QY 0 0,QQ QY 0 0,QQ QY 0 0,QQ QY 0 0,QQ QY 0 0] 97)).alloc (XX #[YX (QJ ⟨w2.heap.size,0,QY⟩)] 29)):=
 ⟨⟨hb.trans ((B_ w2 _ _).mono hb.size),hb.size,heap_alloc2_new w2 _ _,heap_alloc2_old w2 _ _⟩,D_.nil ..⟩
theorem Kg_ (W:QV):(Instr.build 97 #[]).run QW W = .ok (.agg #[QQ QY 0 0,QQ QY 0 0,QQ QY 0 0,QQ QY 0 0,QQ QY 0 0,QQ QY 0 0,QQ QY 0 0]) W:=by kernel_rfl
theorem i4_ {w w5:QV} {o:Obj} (ht:Turn (λb=>b=w.heap.size) (w.alloc o) w5):XU w.heap.size w w5:=
 ((XV _ _).alloc (XJ _) o).trans ⟨ht.os,ht.tape,ht.output,ht.size,λk e=>ht.block k (by simp;omega) (by omega)⟩
theorem Jl_ {t:e_} {ss:Nat->XZ} (h:∀i,i<3->∃A cap,ss i = QQ A 0 cap):(K_ t ss).all (·.oneCell')=true:=by rw[<-Array.toArray_toList (xs:=K_ t ss)];exact all_oneCell_toArray (cf_ t ss λq b=>by obtain⟨A,cp,e⟩:=h q b;exact⟨A,0,cp,e⟩)
theorem Dl_ (L:List e_) (c3:∀t,t∈L->OkT t) (F:Nat->Prop) (A:Option Addr) (n cp:Nat) (w:QV) (hF:∀g,F g->g<w.heap.size) (h:SRd 18 TrR w F L A n) (hn:n<=1000000000) (c2:aa_ w) (cm:b4_ w) :
    Calls QW 12 #[QQ A n cp] w (k0_ L w):=by
 have H1:=q_ (λ(W:QV) (hb:XU w.heap.size w W)=>h.under TrR.good hb hF);have L1:=q_ h.1;have aa:=q_ c3;have HG:=q_ (And.intro c2 cm);have bm:=q_ (r0_ L c3 F A n cp w hF h hn c2);unfold p_ at bm;clear h c3 hF c2 cm;by_cases cy:65536<n
 ·have e1:(65536:Int)<n:=by omega
  go_enter Tryz.func12,Tryz.ntmps12
  have HR:=q_ (show ∀w',XU w.heap.size w w'->k0_ L w (XW (YY #[YX QY,QK QU 20])) w' from λw' hb=>.inl ⟨λh2=>by have:=h2.1;have:=L1.o;omega,rfl,hb⟩);go_wp2_with fail;go_ret2;exact HR.o _ (XV _ _)
 ·have e1:¬(65536:Int)<n:=by omega
  have HN:=q_ (show n<=65536 from by omega);obtain⟨m,Hm⟩:=a_ (L.all cx_);rw[Hm.o]at bm;go_enter Tryz.func12,Tryz.ntmps12
  go_wp2_with fail;refine bm.o.mono ?_;rintro e w2 ⟨rfl,ck⟩;have cb:=q_ ck;clear ck bm e1 hn cy
  cases m with
  | false=>
   have HR:=q_ (show k0_ L w (XW (YY #[YX none,QK QU 20])) w2 from .inl ⟨λh2=>(by rw[Hm.o]at h2;cases h2.2),rfl,cb.o⟩);go_wp2_with fail;go_ret2;exact HR.o
  | true=>
   have cu:=q_ Hm.o;have am:=q_ (λt (ht:t∈L)=>List.all_eq_true.1 Hm.o t ht);obtain⟨z,Hz⟩:=a_ w2.heap.size;obtain⟨w3,bh⟩:=a_ ((w2.alloc (XX #[QQ QY 0 0,QQ QY 0 0,QQ QY 0 0,QQ QY 0 0,QQ QY 0 0,QQ QY 0 0,QQ QY 0 0] 97)).alloc (XX #[YX (QJ ⟨w2.heap.size,0,QY⟩)] 29));have c5:=H0_ cb.o;rw[bh.o,Hz.o]at c5;rw[Hz.o]at bh;have d9:=q_ c5;clear c5 Hm;go_upto_region 4 with ((with_reducible refine d_ (some 23) ?_);refine af_ rfl 97 #[] rfl #[] rfl (.agg #[QQ QY 0 0,QQ QY 0 0,QQ QY 0 0,QQ QY 0 0,QQ QY 0 0,QQ QY 0 0,QQ QY 0 0]) (Kg_ _) ?_)
   rw[Hz.o,bh.o];clear bh Hz;go_wp2_with fail;go_loopw [27] (λs wx=>∃(k:Nat) (S:XZ),k<=n/\s = QK QU (k:Nat)/\Q_ (LdT w z S (L.take k) wx)) (λs _=>n-(intOf s).toNat)
   case atStart=>exact⟨0,QQ QY 0 0,by omega,rfl,q_ d9.o⟩
   case round=>
    obtain⟨k,S,hk,rfl,Z⟩:=hrel;by_cases dg:k<n
    ·obtain⟨y,hy⟩:∃y,L[k]?=QJ y:=⟨_,XQ (by rw[<-L1.o];exact dg)⟩;have HY:=q_ hy;obtain⟨ad,ss,rfl,_,hq,hr⟩:=TrR.cells (H1.o wr Z.o.m.hb) hy;obtain⟨c4,ct⟩:=N1_ (am.o y (YQ hy)) (aa.o y (YQ hy)) hr;have bf:=q_ ct;have bo:=q_ (λW:QV=>xe_ y ss (λi hi=>by obtain⟨A,c,e⟩:=c4 i hi;exact⟨A,0,c,e⟩) W);unfold Az_ at bo;have b8:=Jl_ (t:=y) c4;clear hy hr ct c4;obtain⟨Y,bi⟩:=be_ y ss;rw[bi.o]at bo hq b8 bf;have HQ:=q_ hq;have cv:=q_ b8;clear hq b8;have Z1:=q_ bi.size;have Q1:=q_ (ey_.trans (congrArg QJ bi.size.symm));clear bi;have e1:(0:Int)<=k:=by omega
     have e2:(k:Int)<n:=by omega
     have w1:IntKind.i64.wrap ((k:Int)+1)=(k:Int)+1:=IntWalk.i64_in _ (by have:=HN.o;omega);obtain⟨zy,af⟩:=a_ wr.heap.size;have ap:=q_ (show (wr.alloc (XX (#[QK QU 0,XK false,QK QU 0,QZ ⟨#[]⟩,QZ ⟨#[]⟩,QQ QY 0 0,QK QU 0,XK false,QK QU 0,QZ ⟨#[]⟩,QZ ⟨#[]⟩,QQ QY 0 0,QK QU 0,XK false,QK QU 0,QZ ⟨#[]⟩,QZ ⟨#[]⟩,QQ QY 0 0]) 41)).heap[zy]?=QJ (XX (#[QK QU 0,XK false,QK QU 0,QZ ⟨#[]⟩,QZ ⟨#[]⟩,QQ QY 0 0,QK QU 0,XK false,QK QU 0,QZ ⟨#[]⟩,QZ ⟨#[]⟩,QQ QY 0 0,QK QU 0,XK false,QK QU 0,QZ ⟨#[]⟩,QZ ⟨#[]⟩,QQ QY 0 0]) 41 (0,0)) from by rw[<-af.o];exact heap_alloc_new wr _)
     go_upto_region 7 with (first
      | ((with_reducible refine d_ (some 30) ?_);refine ur_ rfl 41 _ rfl rfl Y _ HQ.o Tryz.underlying41 rfl Q1.o ?_)
      | ((with_reducible refine y_ 6 ?_);refine r_ rfl 41 _ _ rfl zy (#[QK QU 0,XK false,QK QU 0,QZ ⟨#[]⟩,QZ ⟨#[]⟩,QQ QY 0 0,QK QU 0,XK false,QK QU 0,QZ ⟨#[]⟩,QZ ⟨#[]⟩,QQ QY 0 0,QK QU 0,XK false,QK QU 0,QZ ⟨#[]⟩,QZ ⟨#[]⟩,QQ QY 0 0]) Y 41 (by rw[<-af.o];rfl) rfl ap.o Z1.o Q1.o cv.o ?_;intro w5 ay aw))
     rw[af.o];have a9:=q_ (show XU wr.heap.size wr w5 from i4_ (by rw[af.o];exact aw));have ar:=q_ ay;clear ay aw HQ ap;have B:=q_ (Z.o.on a9.o);have g0:w5.drew.cell? ⟨z,0,QY⟩=QJ S:=B.o.m.drew.cellS;have Q2:=q_ (ey_.trans (congrArg QJ Z1.o.symm));refine wp_region_held_drew (S:=λW'=>W'.cell? ⟨z+1,0,QY⟩=QJ (YX (QJ ⟨z,0,QY⟩))/\W'.heap[zy]?=QJ (XX Y 41 (0,0))) (by kernel_rfl) ⟨B.o.m.drew.cellP,ar.o⟩ λf=>?_;refine P_.o ?_;refine tlW 0 31 (YX (QJ ⟨z,0,QY⟩)) f (λw D=>?_) λf=>?_
     ·have p:=D.1;unfold H_;go_simp
     refine tlW 1 32 (YX (QJ ⟨z,0,QY⟩)) f (λw D=>?_) λf=>?_
     ·have p:=D.1;unfold H_;go_simp
     refine C_ 2 33 (YX (QJ ⟨z,0,QY⟩)) f λf=>?_;refine C_ 3 34 (YX (QJ ⟨z,0,QY⟩)) f λf=>?_;refine tlW 5 36 (.agg Y) f (λw D=>?_) λf=>?_
     ·exact n_ (a6_ D.2 41 _ Tryz.underlying41 rfl Q2.o)
     refine cb_ 4 6 (by kernel_rfl) (by rfl) (by rfl) (λK r=>?_) λK r=>?_
     ·skip
      unfold fw_;go_simp;refine tlB r f λf=>?_;clear r K;refine tlC 6 λK r=>?_;go_simp;refine (bo.o w5.drew).mono ?_;rintro e w6 ⟨rfl,U⟩;have f:w6.cell? ⟨z+1,0,QY⟩=QJ (YX (QJ ⟨z,0,QY⟩))/\w6.heap[zy]?=QJ (XX Y 41 (0,0)):=⟨(B.o.drew.on U).m.cellP,(U.block zy (b_ ar.o)).trans ar.o⟩;dsimp only;refine tlB r f λf=>?_;clear r K;have x:=q_ (B.o.drew.on U);have ba:=q_ (show XU wr.heap.size wr w6 from a9.o.trans ((ai_ U).mono a9.o.size));have V:=q_ f;have b9:=q_ (show (w6.alloc (XX Y 99)).cell? ⟨z+1,0,QY⟩=QJ (YX (QJ ⟨z,0,QY⟩))/\(w6.alloc (XX Y 99)).heap[zy]?=QJ (XX Y 41 (0,0)) from ⟨(x.o.on ((XV _ _).alloc (XJ _) _)).m.cellP,(Below.heap_alloc _ _ _ (b_ V.o.2)).trans V.o.2⟩);clear U;refine tlC 7 λK r=>?_;refine Jv_ (.tmp 37) rfl rfl Z1.o ?_;refine tlB r b9.o λf=>?_;clear r K;refine tlC 8 λK r=>?_;refine rk_ (.tmp 35) (.tmp 38) rfl rfl x.o.own (show (L.take k).length=k from by rw[List.length_take,<-L1.o];omega) rfl bf.o (by have:=HN.o;omega) (λb hb=>hb.2) λg7 c7 I a7 J a6 a8=>?_;have C:=q_ (x.o.m.turn (Turn.of_grown J) (λb hb=>(x.o.blk b hb.symm).1));have a5:=q_ (show I.heap[zy]?=QJ (XX Y 41 (0,0)) from (Turn.of_grown J).heap V.o.2 (λe=>by obtain⟨cs,a1,_⟩:=x.o.own;exact cj_ a1 V.o.2 (by decide) e.symm));have a4:=q_ (x.o.more J a6 a8 a7);clear a7 J a6 a8;refine tlB r ⟨C.o.cellP,a5.o⟩ λf=>?_;clear r K;refine C_ 9 40 (YX (QJ ⟨z,0,QY⟩)) f λf=>?_;refine C_ 10 41 (YX (QJ ⟨z,0,QY⟩)) f λf=>?_;have f7:I.frozen? ⟨z,0,QY⟩=false:=Lib.frozen_of_heap C.o.pc 0;have g7:I.cell? ⟨z,0,QY⟩=QJ S:=C.o.cellS;refine tkC 11 λK r=>?_;unfold fw_;go_simp;refine tlB r ⟨a4.o.m.cellP,((Turn.refl (λb=>b=z) I).setCell (p:=⟨z,0,QY⟩) (.inr rfl) _).heap a5.o (λe=>by have h1:=B.o.m.c0;have h2:wr.heap.size=zy:=af.o;have h3:=b_ Z.o.m.pc;omega)⟩ λf=>?_;clear r K;refine⟨wpAnyH_done (by kernel_rfl) ?_ _⟩;clear f;go_wp2_with fail;go_roundw
      case rel=>exact⟨k+1,_,by omega,by go_num,q_ (by rw[f_ HY.o];exact a4.o)⟩
      case measure=>simp[intOf];omega
     ·skip
      change Oper.wp _ ⟨some 37,_,_,_,_,_⟩ _ _ _ _;go_simp;refine (bo.o w5.drew).mono ?_;rintro e w6 ⟨rfl,U⟩;have ba:=q_ (show XU w5.heap.size w5 w6 from ai_ U);have g6:w6.cell? ⟨z,0,QY⟩=QJ S:=(B.o.on ba.o).m.cellS;clear ba;have f:w6.cell? ⟨z+1,0,QY⟩=QJ (YX (QJ ⟨z,0,QY⟩))/\w6.heap[zy]?=QJ (XX Y 41 (0,0)):=⟨(B.o.drew.on U).m.cellP,(U.block zy (b_ ar.o)).trans ar.o⟩;dsimp only;refine tlB r f λf=>?_;clear r K;have x:=q_ (B.o.drew.on U);have ba:=q_ (show XU wr.heap.size wr w6 from a9.o.trans ((ai_ U).mono a9.o.size));have V:=q_ f;have b9:=q_ (show (w6.alloc (XX Y 99)).cell? ⟨z+1,0,QY⟩=QJ (YX (QJ ⟨z,0,QY⟩))/\(w6.alloc (XX Y 99)).heap[zy]?=QJ (XX Y 41 (0,0)) from ⟨(x.o.on ((XV _ _).alloc (XJ _) _)).m.cellP,(Below.heap_alloc _ _ _ (b_ V.o.2)).trans V.o.2⟩);clear U;refine cb_ 4 7 (by kernel_rfl) (by rfl) (by rfl) (λK r=>?_) λK r=>?_
      ·skip
       unfold fw_;go_simp;refine tlB r f λf=>?_;clear r K;refine tlC 7 λK r=>?_;refine Jv_ (.tmp 37) rfl rfl Z1.o ?_;refine tlB r b9.o λf=>?_;clear r K;refine tlC 8 λK r=>?_;refine rk_ (.tmp 35) (.tmp 38) rfl rfl x.o.own (show (L.take k).length=k from by rw[List.length_take,<-L1.o];omega) rfl bf.o (by have:=HN.o;omega) (λb hb=>hb.2) λg7 c7 I a7 J a6 a8=>?_;have C:=q_ (x.o.m.turn (Turn.of_grown J) (λb hb=>(x.o.blk b hb.symm).1));have a5:=q_ (show I.heap[zy]?=QJ (XX Y 41 (0,0)) from (Turn.of_grown J).heap V.o.2 (λe=>by obtain⟨cs,a1,_⟩:=x.o.own;exact cj_ a1 V.o.2 (by decide) e.symm));have a4:=q_ (x.o.more J a6 a8 a7);clear a7 J a6 a8;refine tlB r ⟨C.o.cellP,a5.o⟩ λf=>?_;clear r K;refine C_ 9 40 (YX (QJ ⟨z,0,QY⟩)) f λf=>?_;refine C_ 10 41 (YX (QJ ⟨z,0,QY⟩)) f λf=>?_;have f7:I.frozen? ⟨z,0,QY⟩=false:=Lib.frozen_of_heap C.o.pc 0;have g7:I.cell? ⟨z,0,QY⟩=QJ S:=C.o.cellS;refine tkC 11 λK r=>?_;unfold fw_;go_simp;refine tlB r ⟨a4.o.m.cellP,((Turn.refl (λb=>b=z) I).setCell (p:=⟨z,0,QY⟩) (.inr rfl) _).heap a5.o (λe=>by have h1:=B.o.m.c0;have h2:wr.heap.size=zy:=af.o;have h3:=b_ Z.o.m.pc;omega)⟩ λf=>?_;clear r K;refine⟨wpAnyH_done (by kernel_rfl) ?_ _⟩;clear f;go_wp2_with fail;go_roundw
       case rel=>exact⟨k+1,_,by omega,by go_num,q_ (by rw[f_ HY.o];exact a4.o)⟩
       case measure=>simp[intOf];omega
      ·skip
       change Oper.wp _ ⟨some 38,_,_,_,_,_⟩ _ _ _ _;refine Jv_ (.tmp 37) rfl rfl Z1.o ?_;refine tlB r b9.o λf=>?_;clear r K;have gA:(w6.alloc (XX Y 99)).cell? ⟨z,0,QY⟩=QJ S:=(x.o.on ((XV _ _).alloc (XJ _) _)).m.cellS;refine tkC 4 λK r=>?_;unfold fw_;go_simp;refine tlB r f λf=>?_;clear r K;refine tlC 8 λK r=>?_;refine rk_ (.tmp 35) (.tmp 38) rfl rfl x.o.own (show (L.take k).length=k from by rw[List.length_take,<-L1.o];omega) rfl bf.o (by have:=HN.o;omega) (λb hb=>hb.2) λg7 c7 I a7 J a6 a8=>?_;have C:=q_ (x.o.m.turn (Turn.of_grown J) (λb hb=>(x.o.blk b hb.symm).1));have a5:=q_ (show I.heap[zy]?=QJ (XX Y 41 (0,0)) from (Turn.of_grown J).heap V.o.2 (λe=>by obtain⟨cs,a1,_⟩:=x.o.own;exact cj_ a1 V.o.2 (by decide) e.symm));have a4:=q_ (x.o.more J a6 a8 a7);clear a7 J a6 a8;refine tlB r ⟨C.o.cellP,a5.o⟩ λf=>?_;clear r K;refine C_ 9 40 (YX (QJ ⟨z,0,QY⟩)) f λf=>?_;refine C_ 10 41 (YX (QJ ⟨z,0,QY⟩)) f λf=>?_;have f7:I.frozen? ⟨z,0,QY⟩=false:=Lib.frozen_of_heap C.o.pc 0;have g7:I.cell? ⟨z,0,QY⟩=QJ S:=C.o.cellS;refine tkC 11 λK r=>?_;unfold fw_;go_simp;refine tlB r ⟨a4.o.m.cellP,((Turn.refl (λb=>b=z) I).setCell (p:=⟨z,0,QY⟩) (.inr rfl) _).heap a5.o (λe=>by have h1:=B.o.m.c0;have h2:wr.heap.size=zy:=af.o;have h3:=b_ Z.o.m.pc;omega)⟩ λf=>?_;clear r K;refine⟨wpAnyH_done (by kernel_rfl) ?_ _⟩;clear f;go_wp2_with fail;go_roundw
       case rel=>exact⟨k+1,_,by omega,by go_num,q_ (by rw[f_ HY.o];exact a4.o)⟩
       case measure=>simp[intOf];omega
    ·have de:n=k:=by omega
     subst de;have HM:=q_ (show LdT w z S L wr from by have h:=Z.o;rw[List.take_of_length_le (by rw[<-L1.o];exact XJ _)]at h;exact h);have HZ:=q_ (show w.heap.size<=z from HM.o.m.c0);clear Z;go_wp2_with fail;refine (Mi_ _).mono ?_;unfold k3_;rintro e w4 ⟨rfl,cl⟩;obtain⟨wc,bj⟩:=a_ (gf_ (ae_ 0));have ZW:=q_ (show wc.size=3 from by rw[<-bj.o];rfl);have dc:=q_ (show wc.all (·.oneCell')=true from by rw[<-bj.o];kernel_rfl);rw[bj.o];have d5:=q_ (HM.o.on cl);clear cl;obtain⟨zp,bl⟩:=a_ w4.heap.size;have ap:=q_ (show (w4.alloc (XX #[QK QU 0,QK QU 0,QK QU 0] 101)).heap[zp]?=QJ (XX #[QK QU 0,QK QU 0,QK QU 0] 101 (0,0)) from by rw[<-bl.o];exact heap_alloc_new w4 _);have d3:=q_ (show (Tryz.prog.info? 101).map (·.size)=QJ wc.size from by rw[ZW.o];kernel_rfl);go_upto_region 10 with ((with_reducible refine y_ 7 ?_);refine r_ rfl 101 _ _ rfl zp (#[QK QU 0,QK QU 0,QK QU 0]) wc 101 (by rw[<-bl.o];rfl) rfl ap.o ZW.o d3.o dc.o ?_;intro w5 ay aw)
     rw[bl.o];have a9:=q_ (show XU w4.heap.size w4 w5 from i4_ (by rw[bl.o];exact aw));have B:=q_ (d5.o.on a9.o);have bs:=q_ (show w5.heap[zp]?=QJ (XX (gf_ (ae_ 0)) 101 (0,0)) from by rw[bj.o];exact ay);clear ay aw ap;have p5:w5.cell? ⟨z+1,0,QY⟩=QJ (YX (QJ ⟨z,0,QY⟩)):=B.o.m.cellP;have g5:w5.cell? ⟨z,0,QY⟩=QJ S:=B.o.m.cellS;go_wp2_with fail;refine (Ek_ (ae_ 0) (dz_ 0) zp w B.o.own (by have:=HN.o;have:=L1.o;omega) (λb hb=>hb.2) B.o.m.hb (λb hb=>by have:=(B.o.blk b hb).1;have:=HZ.o;omega) HG.o.1 HG.o.2 bs.o).mono ?_;rintro e w6 ⟨rfl,L6,cq,cr,bn,bp⟩;have x:=q_ (show LdT w z S L6 w6 from ⟨B.o.m.turn bp (λb hb=>(B.o.blk b hb).1),bn.mono TrS.good λb hb=>⟨hb.1,XY hb.2 bp.size⟩⟩);have d7:=q_ (bp.heap bs.o (λe=>by obtain⟨cs,a1,_⟩:=B.o.own;exact cj_ a1 bs.o (by decide) e));have b5:=q_ (And.intro cq cr);clear p5 g5 cq cr bn bp;have ce:=q_ (show L6.length<=65536 from by rw[b5.o.1.length_eq];have:=HN.o;have:=L1.o;omega);have g6:w6.drew.cell? ⟨z,0,QY⟩=QJ S:=x.o.m.cellS;go_upto_region 11 with fail;refine wp_region_held_drew (S:=λW'=>W'.cell? ⟨z+1,0,QY⟩=QJ (YX (QJ ⟨z,0,QY⟩))) (by kernel_rfl) x.o.m.drew.cellP λf=>?_;refine P_.o ?_;refine tlW 0 54 (YX (QJ ⟨z,0,QY⟩)) f (λw D=>?_) λf=>?_
     ·have p:=D;unfold H_;go_simp
     refine tlW 1 55 (YX (QJ ⟨z,0,QY⟩)) f (λw D=>?_) λf=>?_
     ·have p:=D;unfold H_;go_simp
     refine C_ 2 56 (YX (QJ ⟨z,0,QY⟩)) f λf=>?_;refine C_ 3 57 (YX (QJ ⟨z,0,QY⟩)) f λf=>?_;refine C_ 5 59 (.func (.func 53) #[] #[YX (QJ ⟨zp,0,QY⟩)]) f λf=>?_;refine tkC 4 λK r=>?_;unfold fw_;go_simp;refine tlB r f λf=>?_;clear r K;refine tlC 6 λK r=>?_;go_simp;refine (vq_ (ae_ 0) (dz_ 0) zp w (w:=w6.drew) x.o.own (by have:=ce.o;omega) x.o.m.hb.drew (λb hb=>by have:=(x.o.blk b hb).1;have:=HZ.o;omega) HG.o.1 HG.o.2 d7.o).mono ?_;rintro e I ⟨s7,rfl,dh,a2,c8⟩;have HT:=q_ (show cpt (s_ (ae_ 0)) L6=au_ (s_ (ae_ 0)) L from Gf_ (a4_ _) b5.o.1 (b5.o.2.imp λh=>by omega) (λa ha b hb h0=>fe_ (dz_ 0) (bv_ (am.o a ha) (aa.o a ha)) (bv_ (am.o b hb) (aa.o b hb)) h0));obtain⟨A7,c7,e7⟩:=a2.form;rw[HT.o]at a2 e7;obtain⟨T,bg⟩:=a_ (au_ (s_ (ae_ 0)) L);rw[bg.o]at a2 e7;obtain⟨nT,bu⟩:=a_ T.length;rw[bu.o]at e7;subst e7;have C:=q_ (x.o.m.drew.turn c8 (λb hb=>(x.o.blk b hb).1));have cf:=q_ (show D_ 99 18 TrS I (λb=>z+2<=b/\b<I.heap.size) T (QQ A7 nT c7) from a2.mono TrS.good λb hb=>⟨hb.1,XY hb.2 c8.size⟩);clear dh a2 c8 g6;dsimp only;refine tlB r C.o.cellP λf=>?_;clear r K;refine C_ 7 61 (YX (QJ ⟨z,0,QY⟩)) f λf=>?_;refine C_ 8 62 (YX (QJ ⟨z,0,QY⟩)) f λf=>?_;have g7:I.cell? ⟨z,0,QY⟩=QJ S:=C.o.cellS;have f7:I.frozen? ⟨z,0,QY⟩=false:=Lib.frozen_of_heap C.o.pc 0;refine tkC 9 λK r=>?_;unfold fw_;go_simp;have bb:=q_ (show LdT w z (QQ A7 nT c7) T (I.setCell ⟨z,0,QY⟩ (QQ A7 nT c7)) from ⟨C.o.setS _,(cf.o.turn TrS.good ((Turn.refl (λb=>b=z) I).setCell (p:=⟨z,0,QY⟩) (.inr rfl) _) (λb hb=>hb.2) (λb hb e=>by have e:b=z:=e;have:=hb.1;omega)).mono TrS.good λb hb=>⟨hb.1,by have ht:=(Turn.refl (λb=>b=z) I).setCell (p:=⟨z,0,QY⟩) (.inr rfl) (QQ A7 nT c7);exact XY hb.2 ht.size⟩⟩);refine tlB r bb.o.m.cellP λf=>?_;clear r K;refine⟨wpAnyH_done (by kernel_rfl) ?_ _⟩;clear f g7 f7 C cf;have ab:=q_ (show (∀t,t∈T->t∈L)/\j5_ (s_ (ae_ 0)) T/\T.length<=65536 from by have hl:=dg_ (a4_ (ae_ 0)) (l:=L) (λa ha b hb h0=>fe_ (dz_ 0) (bv_ (am.o a ha) (aa.o a ha)) (bv_ (am.o b hb) (aa.o b hb)) h0);rw[bg.o]at hl;exact⟨λt ht=>(hl.2 t).1 ht,hl.1,by have:=Kn_ (s_ (ae_ 0)) L6;rw[HT.o,bg.o]at this;have:=ce.o;omega⟩);have cg:=q_ (λt (ht:t∈T)=>bv_ (am.o t (ab.o.1 t ht)) (aa.o t (ab.o.1 t ht)));have d2:=q_ (λt (ht:t∈T) (n:Nat)=>((aa.o t (ab.o.1 t ht)).get n).fit);have d6:=q_ (show T.Nodup from ab.o.2.1.imp fun {a b} h e=>by rw[e,(a4_ (ae_ 0)).refl]at h;omega);have bc:=q_ (show nT<=65536 from by rw[<-bu.o];exact ab.o.2.2);obtain⟨w8,ci⟩:=a_ (I.setCell ⟨z,0,QY⟩ (QQ A7 nT c7));rw[ci.o]at bb ⊢;clear ci;obtain⟨zo,bw⟩:=a_ w8.heap.size;obtain⟨w9,bt⟩:=a_ (w8.alloc (XX #[QZ ⟨#[115,112,111]⟩,QZ ⟨#[115,111,112]⟩,QZ ⟨#[112,115,111]⟩,QZ ⟨#[112,111,115]⟩,QZ ⟨#[111,115,112]⟩,QZ ⟨#[111,112,115]⟩] 9));have da:=q_ (show LdX w z (QQ A7 nT c7) T us_ zo 0 [] w9 from by rw[<-bt.o,<-bw.o];exact LdX.start bb.o);go_wp2_with fail;rw[bw.o,bt.o];clear bt bw bb;go_loopw [65] (λs wx=>∃(j:Nat) (ss:Nat->XZ),j<=6/\s = QK QU (j:Nat)/\Q_ (LdX w z (QQ A7 nT c7) T ss zo j [] wx/\(j<6->ss j = QQ QY 0 0))) (λs _=>6-(intOf s).toNat)
     case atStart=>exact⟨0,us_,by omega,rfl,q_ ⟨da.o,λ_=>rfl⟩⟩
     case round=>
      obtain⟨j,ss,dp,rfl,Z⟩:=hrel;by_cases co:j<6
      ·have e3:(0:Int)<=j:=by omega
       have e4:(j:Int)<6:=by omega
       have X:=q_ co;have w3:IntKind.i64.wrap ((j:Int)+1)=(j:Int)+1:=IntWalk.i64_in _ (by omega);have q0:wr.cell? ⟨zo,j,QY⟩=QJ (QZ (gg_ j)):=Z.o.1.name co;have dl:(⟨zo,0,QY⟩:Addr).add j=⟨zo,j,QY⟩:=by rw[Addr.add_mid,Nat.zero_add]
       go_wp2_with fail;refine (L6_ j X.o _).mono ?_;unfold k3_;rintro e bq ⟨rfl,bz⟩;have b6:=q_ (Z.o.1.on bz);have d8:=q_ (Z.o.2 X.o);clear Z bz q0;obtain⟨wq,bk⟩:=a_ (gf_ (ae_ j));have ZQ:=q_ (show wq.size=3 from by rw[<-bk.o];rfl);have db:=q_ (show wq.all (·.oneCell')=true from by rw[<-bk.o];kernel_rfl);rw[bk.o];obtain⟨zq,au⟩:=a_ bq.heap.size;have cc:=q_ (show (bq.alloc (XX #[QK QU 0,QK QU 0,QK QU 0] 101)).heap[zq]?=QJ (XX #[QK QU 0,QK QU 0,QK QU 0] 101 (0,0)) from by rw[<-au.o];exact heap_alloc_new bq _);have d4:=q_ (show (Tryz.prog.info? 101).map (·.size)=QJ wq.size from by rw[ZQ.o];kernel_rfl);go_upto_region 16 with ((with_reducible refine y_ 12 ?_);refine r_ rfl 101 _ _ rfl zq (#[QK QU 0,QK QU 0,QK QU 0]) wq 101 (by rw[<-au.o];rfl) rfl cc.o ZQ.o d4.o db.o ?_;intro br c9 c6)
       rw[au.o];have ao:=q_ (b6.o.on (i4_ (w5:=br) (by rw[au.o];exact c6)));have cw:=q_ (show br.heap[zq]?=QJ (XX (gf_ (ae_ j)) 101 (0,0)) from by rw[bk.o];exact c9);have cj:=q_ (show z+2<=zq from by have:=b_ b6.o.m.ph;have h2:bq.heap.size=zq:=au.o;omega);clear c9 c6 cc b6;have dr:br.cell? ⟨z+1,0,QY⟩=QJ (YX (QJ ⟨z,0,QY⟩)):=ao.o.m.cellP;have dm:br.cell? ⟨z,0,QY⟩=QJ (QQ A7 nT c7):=ao.o.m.cellS;go_wp2_with fail;go_loopw [80] (λs wx=>∃(k:Nat) (N:Nat->XZ),k<=nT/\s = QK QU (k:Nat)/\Q_ (LdX w z (QQ A7 nT c7) T N zo j (List.range k) wx/\(k=0->N j = QQ QY 0 0)/\(∀i,i<6->j<i->N i = QQ QY 0 0)/\wx.heap[zq]?=QJ (XX (gf_ (ae_ j)) 101 (0,0)))) (λs _=>nT-(intOf s).toNat)
       case atStart=>exact⟨0,ss,by omega,rfl,q_ ⟨ao.o,λ_=>d8.o,λi hi av=>by obtain⟨_,_,_,h3⟩:=ao.o.rows i hi (by omega);exact h3 av,cw.o⟩⟩
       case round=>
        obtain⟨k,N,dq,rfl,M⟩:=hrel;by_cases df:k<nT
        ·have du:IntKind.i64.wrap ((k:Int)+1)=(k:Int)+1:=IntWalk.i64_in _ (by have:=bc.o;omega);have cd:=q_ df;have bd:=q_ (show wr.drew.ownsRow 0 3 1 (N j) k (ixC (List.range k)) from by have h:=(M.o.1.rowj X.o).row;rw[List.length_range]at h;exact h);have dn:wr.drew.cell? ⟨z,1+j,QY⟩=QJ (N j):=M.o.1.m.cellJ X.o;have ae:=q_ M.o.1.drew;go_upto_region 19 with fail;refine wp_region_held_drew (S:=λW'=>W'.cell? ⟨z+1,0,QY⟩=QJ (YX (QJ ⟨z,0,QY⟩))) (by kernel_rfl) ae.o.m.cellP λf=>?_;refine P_.o ?_;refine tlW 0 83 (YX (QJ ⟨z,0,QY⟩)) f (λw D=>?_) λf=>?_
         ·have p:=D;unfold H_;go_simp
         refine C_ 1 84 (QK QU (j:Nat)) f λf=>?_;refine tlW 2 85 (YX (QJ ⟨z,0,QY⟩)) f (λw D=>?_) λf=>?_
         ·have p:=D;unfold H_;go_simp
         refine C_ 3 86 (QK QU (j:Nat)) f λf=>?_;refine C_ 4 87 (YX (QJ ⟨z,0,QY⟩)) f λf=>?_;refine C_ 5 88 (YX (QJ ⟨z,1,QY⟩)) f λf=>?_;refine tlW 6 89 (YX (QJ ⟨z,1+j,QY⟩)) f (λw D=>?_) λf=>?_
         ·exact n_ (uo_ z j X.o w)
         refine C_ 8 91 (QK QU (k:Nat)) f λf=>?_;refine C_ 11 94 (YX (QJ ⟨z,0,QY⟩)) f λf=>?_;refine C_ 12 95 (YX (QJ ⟨z,1,QY⟩)) f λf=>?_;refine cb_ 7 9 (by kernel_rfl) (by rfl) (by rfl) (λK r=>?_) λK r=>?_
         ·skip
          unfold fw_;go_simp;refine tlB r f λf=>?_;clear r K;refine tkC 9 λK r=>?_;unfold fw_;go_simp;refine tlB r (show (wr.alloc (XX #[QK QU (k:Nat)] 3)).drew.cell? ⟨z+1,0,QY⟩=QJ (YX (QJ ⟨z,0,QY⟩)) from (M.o.1.on ((XV _ _).alloc (XJ _) _)).m.drew.cellP) λf=>?_;clear r K;refine tlC 10 λK r=>?_;refine ym_ (.tmp 90) (.tmp 92) rfl (wr:=wr.drew) (k:=k) rfl List.length_range bd.o rfl (by have:=bc.o;have:=cd.o;omega) λah ag a3 aj O ai ak=>?_;have a0:=q_ (ae.o.m.turn (Turn.of_grown O) (λb hb=>((ae.o.rowj X.o).blk b hb.symm).1));have ac:=q_ (ae.o.store (v:=QQ (QJ ⟨ah,0,QY⟩) (k+1) ag) (ix':=List.range (k+1)) X.o O ai ak rfl (by rw[List.length_range,List.range_succ];exact aj));have az:=q_ (show a3.heap[zq]?=QJ (XX (gf_ (ae_ j)) 101 (0,0)) from (Turn.of_grown O).heap M.o.2.2.2 (λe=>cj_ bd.o M.o.2.2.2 (by decide) e.symm));have bx:a3.frozen? ⟨z,1+j,QY⟩=false:=Lib.frozen_of_heap a0.o.pc _;have b7:a3.cell? ⟨z,1+j,QY⟩=QJ (N j):=a0.o.cellJ X.o;clear aj O ai ak;refine tlB r a0.o.cellP λf=>?_;clear r K;refine tlW 13 96 (YX (QJ ⟨z,1+j,QY⟩)) f (λw D=>?_) λf=>?_
          ·exact n_ (uo_ z j X.o w)
          refine tkC 14 λK r=>?_;unfold fw_;go_simp;refine tlB r ac.o.m.cellP λf=>?_;clear r K;refine⟨wpAnyH_done (by kernel_rfl) ?_ _⟩;clear f bx b7;have b0:=q_ (((Turn.refl (λb=>b=z) a3).setCell (p:=⟨z,1+j,QY⟩) (.inr rfl) (QQ (QJ ⟨ah,0,QY⟩) (k+1) ag)).heap az.o (by have:=cj.o;omega));have aq:=q_ M.o.2.2.1;clear M;go_wp2_with fail;go_roundw
          case rel=>exact⟨k+1,L3_ N j (QQ (QJ ⟨ah,0,QY⟩) (k+1) ag),by omega,by go_num,q_ ⟨ac.o,λh=>by omega,λi hi av=>(if_neg (by omega)).trans (aq.o i hi av),b0.o⟩⟩
          case measure=>simp[intOf];omega
         ·skip
          unfold fw_;go_simp;refine tlB r (show (wr.alloc (XX #[QK QU (k:Nat)] 3)).drew.cell? ⟨z+1,0,QY⟩=QJ (YX (QJ ⟨z,0,QY⟩)) from (M.o.1.on ((XV _ _).alloc (XJ _) _)).m.drew.cellP) λf=>?_;clear r K;have dk:(wr.alloc (XX #[QK QU (k:Nat)] 3)).drew.cell? ⟨z,1+j,QY⟩=QJ (N j):=(M.o.1.on ((XV _ _).alloc (XJ _) _)).m.drew.cellJ X.o;refine tkC 7 λK r=>?_;unfold fw_;go_simp;refine tlB r f λf=>?_;clear r K;refine tlC 10 λK r=>?_;refine ym_ (.tmp 90) (.tmp 92) rfl (wr:=wr.drew) (k:=k) rfl List.length_range bd.o rfl (by have:=bc.o;have:=cd.o;omega) λah ag a3 aj O ai ak=>?_;have a0:=q_ (ae.o.m.turn (Turn.of_grown O) (λb hb=>((ae.o.rowj X.o).blk b hb.symm).1));have ac:=q_ (ae.o.store (v:=QQ (QJ ⟨ah,0,QY⟩) (k+1) ag) (ix':=List.range (k+1)) X.o O ai ak rfl (by rw[List.length_range,List.range_succ];exact aj));have az:=q_ (show a3.heap[zq]?=QJ (XX (gf_ (ae_ j)) 101 (0,0)) from (Turn.of_grown O).heap M.o.2.2.2 (λe=>cj_ bd.o M.o.2.2.2 (by decide) e.symm));have bx:a3.frozen? ⟨z,1+j,QY⟩=false:=Lib.frozen_of_heap a0.o.pc _;have b7:a3.cell? ⟨z,1+j,QY⟩=QJ (N j):=a0.o.cellJ X.o;clear aj O ai ak;refine tlB r a0.o.cellP λf=>?_;clear r K;refine tlW 13 96 (YX (QJ ⟨z,1+j,QY⟩)) f (λw D=>?_) λf=>?_
          ·exact n_ (uo_ z j X.o w)
          refine tkC 14 λK r=>?_;unfold fw_;go_simp;refine tlB r ac.o.m.cellP λf=>?_;clear r K;refine⟨wpAnyH_done (by kernel_rfl) ?_ _⟩;clear f bx b7;have b0:=q_ (((Turn.refl (λb=>b=z) a3).setCell (p:=⟨z,1+j,QY⟩) (.inr rfl) (QQ (QJ ⟨ah,0,QY⟩) (k+1) ag)).heap az.o (by have:=cj.o;omega));have aq:=q_ M.o.2.2.1;clear M;go_wp2_with fail;go_roundw
          case rel=>exact⟨k+1,L3_ N j (QQ (QJ ⟨ah,0,QY⟩) (k+1) ag),by omega,by go_num,q_ ⟨ac.o,λh=>by omega,λi hi av=>(if_neg (by omega)).trans (aq.o i hi av),b0.o⟩⟩
          case measure=>simp[intOf];omega
        ·have d0:nT=k:=by omega
         subst d0;have di:wr.cell? ⟨z+1,0,QY⟩=QJ (YX (QJ ⟨z,0,QY⟩)):=M.o.1.m.cellP;have dd:wr.cell? ⟨z,1+j,QY⟩=QJ (N j):=M.o.1.m.cellJ X.o;have dj:(⟨z,1,QY⟩:Addr).add j=⟨z,1+j,QY⟩:=Addr.add_mid _ _ _;have ch:=q_ (Ei_ M.o.1 X.o bu.o M.o.2.1 M.o.2.2.2 HG.o.1 HG.o.2 cg.o d6.o bc.o);have aq:=q_ M.o.2.2.1;clear M;go_wp2_with fail;refine ch.o.mono ?_;rintro e dt ⟨rfl,ix',cn,ca⟩;have cx:=q_ (ca.next X.o cn);clear cn ca ch di dd;go_wp2_with fail;go_roundw
         case rel=>exact⟨j+1,N,by omega,by go_num,q_ ⟨cx.o,λh=>aq.o (j+1) h (by omega)⟩⟩
         case measure=>simp[intOf];omega
      ·have cz:j=6:=by omega
       subst cz;have ds:wr.cell? ⟨z+1,0,QY⟩=QJ (YX (QJ ⟨z,0,QY⟩)):=Z.o.1.m.cellP;have d1:=q_ (show k0_ L w (XW (YY #[YX (QJ ⟨z,0,QY⟩),QK QU 0])) wr from .inr ⟨by have:=HN.o;have:=L1.o;omega,cu.o,z,rfl,Z.o.1.m.hb,by rw[bg.o];exact Z.o.1.whole cg.o d2.o ab.o.2.1 ab.o.2.2⟩);clear Z;go_wp2_with fail;go_ret2;exact d1.o
def Kof (T:List e_) (ix:List Nat):List e_:=ix.map λk=>T.getD k B1_
theorem K7_ {T:List e_} {ix:List Nat} {n k:Nat} {t:e_} (h1:ix[n]?=QJ k) (h2:T[k]?=QJ t):(Kof T ix)[n]?=QJ t:=by unfold Kof;rw[List.getElem?_map,h1];simp[h2]
def O3_ (c:Nat) (W:Way) (s:XZ) (d:Nat) (at_ en:Nat->Nat):Array XZ:=
 #[YX (QJ ⟨c,0,QY⟩),QK QU (W.i:Nat),QK QU (W.j:Nat),QK QU (W.k:Nat),s,QK QU (d:Nat),QK QU (at_ 0:Nat),QK QU (en 0:Nat),QK QU (at_ 1:Nat),QK QU (en 1:Nat),QK QU (at_ 2:Nat),QK QU (en 2:Nat),QK QU (at_ 3:Nat),QK QU (en 3:Nat)]
structure yr_ (F:Nat->Prop) (c:Nat) (j:Nat) (T:List e_) (ix:List Nat) (cs:Nat->Array XZ) (S s:XZ) (w:QV):Prop where
 st:w.cell? ⟨c,0,QY⟩=QJ S
 row:n0_ F w cs T S
 nums:nz_ F w ix s
 ixo:mg_ (ae_ j) T ix
 fc:F c
 j6:j<6
 scal:∀t,t∈T->cn_ t
 fit:∀t,t∈T->∀n,bt_ (t.get n)
 len:T.length<=65536
structure gh_ (F:Nat->Prop) (q c:Nat) (j:Nat) (T:List e_) (ix:List Nat) (cs:Nat->Array XZ) (S s:XZ) (d:Nat) (at_ en:Nat->Nat) (w:QV):Prop where
 r:yr_ F c j T ix cs S s w
 cur:w.heap[q]?=QJ (XX (O3_ c (ae_ j) s d at_ en) 171 (0,0))
 fq:¬F q
 fl:∀b,F b->b<w.heap.size
section
variable {F:Nat->Prop} {q c j:Nat} {T:List e_} {ix:List Nat} {cs:Nat->Array XZ} {S s:XZ} {d:Nat} {at_ en:Nat->Nat} {w w':QV}
theorem yr_.keep (h:yr_ F c j T ix cs S s w) (e:∀b,F b->w'.heap[b]?=w.heap[b]?):yr_ F c j T ix cs S s w':=
 ⟨(World.cell?_of_block (a:=⟨c,0,QY⟩) (e c h.fc)).trans h.st,h.row.keep λ_ f=>World.cell?_of_block (e _ f),h.nums.keep λ_ f=>World.cell?_of_block (e _ f),h.ixo,h.fc,h.j6,h.scal,h.fit,h.len⟩
theorem gh_.turn (h:gh_ F q c j T ix cs S s d at_ en w) {e:Nat->Prop} (ht:Turn e w w') (h1:∀b,F b->¬e b) (h2:¬e q):gh_ F q c j T ix cs S s d at_ en w':=
 ⟨h.r.keep λb hb=>ht.block b (h.fl b hb) (h1 b hb),ht.heap h.cur h2,h.fq,λb hb=>XY (h.fl b hb) ht.size⟩
theorem gh_.on (h:gh_ F q c j T ix cs S s d at_ en w) (hb:XU w.heap.size w w'):gh_ F q c j T ix cs S s d at_ en w':=
 h.turn (Turn.of_below hb) (λb e h2=>by have:=h.fl b e;have h2:w.heap.size<=b:=h2;omega) (λh2=>by have:=b_ h.cur;have h2:w.heap.size<=q:=h2;omega)
theorem gh_.drew (h:gh_ F q c j T ix cs S s d at_ en w):gh_ F q c j T ix cs S s d at_ en w.drew:=h.on (XV _ _).drew
theorem gh_.c0 (h:gh_ F q c j T ix cs S s d at_ en w):w.cell? ⟨q,0,QY⟩=QJ (YX (QJ ⟨c,0,QY⟩)):=QX h.cur 0
theorem gh_.c4 (h:gh_ F q c j T ix cs S s d at_ en w):w.cell? ⟨q,4,QY⟩=QJ s:=QX h.cur 4
theorem gh_.c5 (h:gh_ F q c j T ix cs S s d at_ en w):w.cell? ⟨q,5,QY⟩=QJ (QK QU (d:Nat)):=QX h.cur 5
theorem gh_.ca (h:gh_ F q c j T ix cs S s d at_ en w) {e:Nat} (b:e<4):w.cell? ⟨q,6+e*2,none⟩=some (QK QU (at_ e:Nat)):=by rcases (show e=0\/e=1\/e=2\/e=3 by omega) with rfl | rfl | rfl | rfl<;>exact QX h.cur _
theorem gh_.ce (h:gh_ F q c j T ix cs S s d at_ en w) {e:Nat} (b:e<4):w.cell? ⟨q,6+e*2+1,none⟩=some (QK QU (en e:Nat)):=by rcases (show e=0\/e=1\/e=2\/e=3 by omega) with rfl | rfl | rfl | rfl<;>exact QX h.cur _
theorem yr_.stand (h:yr_ F c j T ix cs S s w) {n:Nat} (hn:n<ix.length):∃(I Y J D Z k:Nat) (t:e_) (ss:Nat->XZ),S = QQ (QJ ⟨I,0,QY⟩) T.length Y/\s = QQ (QJ ⟨J,D,QY⟩) ix.length Z/\ix[n]?=QJ k/\T[k]?=QJ t/\(Kof T ix)[n]?=QJ t/\k<T.length /\
    (∀w':QV,yr_ F c j T ix cs S s w'->w'.cell? ⟨J,D+n,QY⟩=QJ (QK QU (k:Nat))/\∀e,e<3->w'.rangeAt I (k*18+e*6) (c_ (t.get e) (ss e)).toList)/\(∀e,e<3->∃A cap,ss e = QQ A 0 cap):=by
 obtain⟨k,C⟩:∃k,ix[n]?=QJ k:=⟨_,XQ hn⟩;have r:=h.ixo.lt (YQ C);obtain⟨t,ht⟩:∃t,T[k]?=QJ t:=⟨_,XQ r⟩;obtain⟨A,cap,rfl,a0,U⟩:=h.row.form;obtain⟨B,M,rfl,a1,V⟩:=h.nums;obtain⟨I,rfl,_,a2⟩:=U (by omega);obtain⟨J,D,rfl,_,a3⟩:=V (by omega);obtain⟨_,_,ss,W,O⟩:=h.row.el k t ht;refine⟨I,cap,J,D,M,k,t,ss,rfl,rfl,C,ht,K7_ C ht,r,λw' N=>⟨?_,λe he i v X=>?_⟩,W⟩
 ·obtain⟨B',L,f,_,x⟩:=N.nums;injection f with f _ _;obtain⟨r3,o3,b,_,z⟩:=x (by omega);rw[<-f]at b;injection b with b;injection b with b e4;subst b e4;exact z n k C
 ·obtain⟨A',L,f,_,x⟩:=N.row.form;injection f with f _ _;obtain⟨r3,b,_,z⟩:=x (by omega);rw[<-f]at b;injection b with b;injection b with b;subst b;have hi:i<6:=(List.getElem?_eq_some_iff.1 X).1;rw[show k*18+e*6+i=k*18+(e*6+i) by omega,z k r (e*6+i) (by omega),O,u_ t ss e he i hi,<-Array.getElem?_toList];exact X
end
theorem ad_:(Tryz.prog.info? 39).map (·.size)=some 6:=by kernel_rfl
section
variable {P:Program} {md:Region.Mode} {ops:Array Oper} {Q:Exit->Act->QV->Prop} {S:QV->Prop} {fuel:Nat} {listed:Array Bool} {a:Act} {w:QV}
theorem V_ (i d:Nat) (b:ops[i]?.map (·.dst)=QJ (QJ d)) (e:bp_ ops i a=QJ false) (A:Region.noSelect ops=true) (x:Region.free md ops listed i=true) (z:(Region.ready md ops listed).contains i=true)
    (r:∀c a w,Q (.panic c) (a.put (QJ d) undef) w->Q (.panic c) a w) (f:S w)
    (h:S w->P_ (wpAnyH P md ops Q S fuel (listed.setIfInBounds i true) (a.put (QJ d) undef) w)):P_ (wpAnyH P md ops Q S (fuel+1) listed a w):=by
 unfold bp_ at e
 cases ho:ops[i]? with
 | none=>rw[ho]at b;cases b
 | some o=>
  rw[ho]at b e;simp only[Option.map_some,Option.some.injEq]at b e;exact⟨wpAnyH_take ho A x z (λc a w h=>r c a w (by rw[<-b];exact h)) (.inr ⟨e,rfl⟩) f (by rw[b];exact (h f).o)⟩
end
structure Mr_ (q gp gv b1 b2 b3 low:Nat) (w:QV):Prop where
 past:w.cell? ⟨b1,0,QY⟩=QJ (.func (.func gp) #[] #[YX (QJ ⟨gv,0,QY⟩)])
 key:w.cell? ⟨b2,0,QY⟩=QJ (.func (.func 109) #[YX (QJ ⟨q,0,QY⟩)] #[])
 low:w.cell? ⟨b3,0,QY⟩=QJ (QK QU (low:Nat))
theorem Mr_.on {q b e b1 b2 b3 low:Nat} {w w':QV} (h:Mr_ q b e b1 b2 b3 low w) (hb:XU w.heap.size w w'):Mr_ q b e b1 b2 b3 low w':=
 ⟨(hb.cell (p:=⟨b1,0,QY⟩) (bw_ h.past)).trans h.past,(hb.cell (p:=⟨b2,0,QY⟩) (bw_ h.key)).trans h.key,(hb.cell (p:=⟨b3,0,QY⟩) (bw_ h.low)).trans h.low⟩
structure o8_ (F:Nat->Prop) (c:Nat) (T:List e_) (l:List Nat) (cs:Nat->Array XZ) (S s:XZ) (w:QV):Prop where
 st:w.cell? ⟨c,0,QY⟩=QJ S
 row:n0_ F w cs T S
 nums:nz_ F w l s
 lt:∀n,n∈l->n<T.length
 fc:F c
 fl:∀b,F b->b<w.heap.size
structure B7_ (F:Nat->Prop) (c:Nat) (T:List e_) (l:List Nat) (cs:Nat->Array XZ) (S s:XZ) (b1 b2 b3 b4 p:Nat) (P:e_) (ps:Nat->XZ) (w:QV):Prop where
 r:o8_ F c T l cs S s w
 v1:w.cell? ⟨b1,0,QY⟩=QJ (YX (QJ ⟨c,0,QY⟩))
 v2:w.cell? ⟨b2,0,QY⟩=QJ s
 v3:w.cell? ⟨b3,0,QY⟩=QJ (QK QU (p:Nat))
 v4:w.heap[b4]?=QJ (XX (K_ P ps) 99 (0,0))
section
variable {F:Nat->Prop} {c:Nat} {T:List e_} {l:List Nat} {cs:Nat->Array XZ} {S s:XZ} {b1 b2 b3 b4 p:Nat} {P:e_} {ps:Nat->XZ} {w w':QV}
theorem o8_.turn (h:o8_ F c T l cs S s w) {r:Nat->Prop} (ht:Turn r w w') (h1:∀b,F b->¬r b):o8_ F c T l cs S s w':=
 have e:∀b,F b->w'.heap[b]?=w.heap[b]?:=λb hb=>ht.block b (h.fl b hb) (h1 b hb)
 ⟨(World.cell?_of_block (a:=⟨c,0,QY⟩) (e c h.fc)).trans h.st,h.row.keep λ_ f=>World.cell?_of_block (e _ f),h.nums.keep λ_ f=>World.cell?_of_block (e _ f),h.lt,h.fc,λb hb=>XY (h.fl b hb) ht.size⟩
theorem o8_.on (h:o8_ F c T l cs S s w) (hb:XU w.heap.size w w'):o8_ F c T l cs S s w':=
 h.turn (Turn.of_below hb) (λb e h2=>by have:=h.fl b e;have h2:w.heap.size<=b:=h2;omega)
theorem B7_.on (h:B7_ F c T l cs S s b1 b2 b3 b4 p P ps w) (hb:XU w.heap.size w w'):B7_ F c T l cs S s b1 b2 b3 b4 p P ps w':=
 ⟨h.r.on hb,(hb.cell (p:=⟨b1,0,QY⟩) (bw_ h.v1)).trans h.v1,(hb.cell (p:=⟨b2,0,QY⟩) (bw_ h.v2)).trans h.v2,(hb.cell (p:=⟨b3,0,QY⟩) (bw_ h.v3)).trans h.v3,(hb.block b4 (b_ h.v4)).trans h.v4⟩
theorem B7_.drew (h:B7_ F c T l cs S s b1 b2 b3 b4 p P ps w):B7_ F c T l cs S s b1 b2 b3 b4 p P ps w.drew:=h.on (XV _ _).drew
theorem o8_.stand (h:o8_ F c T l cs S s w) {n k:Nat} (M:l[n]?=QJ k):∃(D Y I C Z:Nat) (t:e_) (ss:Nat->XZ),S = QQ (QJ ⟨D,0,QY⟩) T.length Y/\s = QQ (QJ ⟨I,C,QY⟩) l.length Z/\T[k]?=QJ t/\k<T.length /\
    (∀w':QV,o8_ F c T l cs S s w'->w'.cell? ⟨I,C+n,QY⟩=QJ (QK QU (k:Nat))/\∀e,e<3->w'.rangeAt D (k*18+e*6) (c_ (t.get e) (ss e)).toList)/\(∀e,e<3->∃A cap,ss e = QQ A 0 cap):=by
 have hn:n<l.length:=(List.getElem?_eq_some_iff.1 M).1;have r:=h.lt k (YQ M);obtain⟨t,ht⟩:∃t,T[k]?=QJ t:=⟨_,XQ r⟩;obtain⟨A,cap,rfl,a0,U⟩:=h.row.form;obtain⟨B,L,rfl,a1,V⟩:=h.nums;obtain⟨D,rfl,_,a2⟩:=U (by omega);obtain⟨I,C,rfl,_,a3⟩:=V (by omega);obtain⟨_,_,ss,W,O⟩:=h.row.el k t ht;refine⟨D,cap,I,C,L,t,ss,rfl,rfl,ht,r,λw' N=>⟨?_,λe he i v X=>?_⟩,W⟩
 ·obtain⟨B',J,f,_,x⟩:=N.nums;injection f with f _ _;obtain⟨r3,o3,b,_,z⟩:=x (by omega);rw[<-f]at b;injection b with b;injection b with b e4;subst b e4;exact z n k M
 ·obtain⟨A',J,f,_,x⟩:=N.row.form;injection f with f _ _;obtain⟨r3,b,_,z⟩:=x (by omega);rw[<-f]at b;injection b with b;injection b with b;subst b;have hi:i<6:=(List.getElem?_eq_some_iff.1 X).1;rw[show k*18+e*6+i=k*18+(e*6+i) by omega,z k r (e*6+i) (by omega),O,u_ t ss e he i hi,<-Array.getElem?_toList];exact X
end
section
variable {F:Nat->Prop} {c:Nat} {T:List e_} {l:List Nat} {cs:Nat->Array XZ} {S s:XZ} {b1 b2 b3 b4 p:Nat} {P:e_} {ps:Nat->XZ} {w w':QV}
end
structure Mv_ (F:Nat->Prop) (c:Nat) (T:List e_) (cs:Nat->Array XZ) (S:XZ) (z z8:Nat) (P:e_) (ps:Nat->XZ) (j:Nat) (w0:QV) (e:Nat) (l:List Nat) (s:XZ) (wx:QV):Prop where
 r:o8_ F c T l cs S s wx
 v1:wx.cell? ⟨z,0,QY⟩=QJ (YX (QJ ⟨c,0,QY⟩))
 v2:wx.heap[z8]?=QJ (XX #[s] 94 (0,0))
 v4:wx.heap[z+1]?=QJ (XX (K_ P ps) 99 (0,0))
 hb:XU w0.heap.size w0 wx
 mid:k2_ (ae_ j) T P e l
 z8z:w0.heap.size<=z8/\z8≠z/\z8≠z+1
 ll:l.length<=65536
theorem Mv_.next {F:Nat->Prop} {c:Nat} {T:List e_} {cs:Nat->Array XZ} {S:XZ} {z x:Nat} {P:e_} {ps:Nat->XZ} {j:Nat} {w0:QV} {e:Nat} {l:List Nat} {s:XZ} {wx C:QV} (h:Mv_ F c T cs S z x P ps j w0 e l s wx) (M:∀b,F b->b<w0.heap.size) (hb:XU wx.heap.size wx C) {I:Nat} {B:List Nat} {A:XZ}
    (L:k2_ (ae_ j) T P I B) (U:∀w',nz_ F w' l s->nz_ F w' B A) (O:B.length<=l.length):Mv_ F c T cs S z x P ps j w0 I B A (C.setCell ⟨x,0,QY⟩ A):=by
 have ht:=(Turn.refl (λb=>b=x) C).setCell (p:=⟨x,0,QY⟩) (.inr rfl) A;have f:=(h.r.on hb).turn ht (λb J e=>by have:=M b J;have:=h.z8z.1;omega);have v2:=(hb.block x (b_ h.v2)).trans h.v2;have v1:=(hb.cell (p:=⟨z,0,QY⟩) (bw_ h.v1)).trans h.v1;have v4:=(hb.block (z+1) (b_ h.v4)).trans h.v4;have D:=h.hb.trans (hb.mono h.hb.size);refine⟨⟨f.st,f.row,U _ f.nums,L.lt,f.fc,f.fl⟩,?_,heap_setCell_same C x 0 _ _ A v2,ht.heap v4 (λe=>h.z8z.2.2 e.symm),D.trans ⟨ht.os,ht.tape,ht.output,ht.size,λk N=>ht.block k (XY N D.size) (λe=>by have:=h.z8z.1;omega)⟩,L,h.z8z,YK O h.ll⟩;exact (World.cell?_of_block (a:=⟨z,0,QY⟩) (ht.block z (bw_ v1) (λe=>h.z8z.2.1 e.symm))).trans v1
theorem Kv_ (A B:Option Addr) (ca q cb:Nat) (f:XZ) (w:QV) :
    Calls QW 193 #[QQ A 0 ca,QQ B q cb,f] w (p_ (decide (q=0)) w):=by
 unfold p_;by_cases h:q=0
 ·subst h;go_enter Tryz.func193,Tryz.ntmps193
  go_wp2_with fail;go_loopw [17] (λs wx=>s = QK QU 0/\wx=w) (λ_ _=>0)
  case atStart=>exact⟨rfl,rfl⟩
  case round=>
   obtain⟨rfl,rfl⟩:=hrel;go_wp2_with fail;go_ret;exact⟨rfl,XV _ _⟩
 ·have e:((0:Int) != (q:Int))=true:=by simp;omega
  have b:decide (q=0)=false:=decide_eq_false h;rw[b];go_enter Tryz.func193,Tryz.ntmps193
  go_wp2_with fail;go_ret;exact⟨rfl,XV _ _⟩
theorem Ee_ (a b:g_) (hl:a.list=[]) (A B:Option Addr) (ca cb:Nat) (w:QV) :
    Calls QW 123 #[.agg (c_ a (QQ A 0 ca)),.agg (c_ b (QQ B b.list.length cb))] w (p_ (c6_ a b) w):=by
 obtain⟨k,t,n,s,x,l⟩:=a;obtain⟨V,M,J,L,I,C⟩:=b;simp only[g_.list]at hl;subst hl;unfold c_;simp only[g_.kind,g_.truth,g_.num,g_.text,g_.extra,g_.list];obtain⟨q,Z⟩:=a_ C.length;rw[Z.o];have D:=q_ (B_ w (XX #[QK QU k,XK t,QK QU n,QZ s,QZ x,QQ A 0 ca] 39) (XX #[QK QU V,XK M,QK QU J,QZ L,QZ I,QQ B q cb] 39));have Y:=q_ (λ(f:XZ) (W:QV)=>Kv_ A B ca q cb f W);by_cases h1:k=V
 ·subst h1;by_cases h2:t=M
  ·subst h2;by_cases N:n=J
   ·subst N;by_cases O:s=L
    ·subst O;by_cases U:x=I
     ·subst U
      have hb:decide (q=0)=c6_ (.mk k t n s x []) (.mk k t n s x C):=by
       unfold c6_;rw[<-Z.o]
       cases C with
       | nil=>simp
       | cons y r=>simp
      have X:=q_ hb;unfold p_ at Y;obtain⟨v,Hv⟩:=a_ (decide (q=0));rw[Hv.o]at Y X;clear hb Hv;go_enter Tryz.func123,Tryz.ntmps123
      go_wp2_with fail;refine (Y.o _ _).mono ?_;rintro e w5 ⟨rfl,a0⟩;go_wp2_with fail;go_ret;exact A_ X.o (D.o.trans (a0.mono D.o.size))
     ·have t5:=ba_ U;have h:=b9_ (a:=.mk k t n s x []) (b:=.mk k t n s I C) (by simp[U]);have z:=q_ h;clear h U;go_enter Tryz.func123,Tryz.ntmps123
      go_wp2_with fail;go_ret;exact A_ z.o.symm D.o
    ·have t4:=ba_ O;have h:=b9_ (a:=.mk k t n s x []) (b:=.mk k t n L I C) (by simp[O]);have z:=q_ h;clear h O;go_enter Tryz.func123,Tryz.ntmps123
     go_wp2_with fail;go_ret;exact A_ z.o.symm D.o
   ·have t3:(n==J)=false:=by simpa using N
    have h:=b9_ (a:=.mk k t n s x []) (b:=.mk k t J L I C) (by simp[N]);have z:=q_ h;clear h N;go_enter Tryz.func123,Tryz.ntmps123
    go_wp2_with fail;go_ret;exact A_ z.o.symm D.o
  ·have t2:(t==M)=false:=by simpa using h2
   have h:=b9_ (a:=.mk k t n s x []) (b:=.mk k M J L I C) (by simp[h2]);have z:=q_ h;clear h h2;go_enter Tryz.func123,Tryz.ntmps123
   go_wp2_with fail;go_ret;exact A_ z.o.symm D.o
 ·have t1:(k==V)=false:=by simpa using h1
  have h:=b9_ (a:=.mk k t n s x []) (b:=.mk V M J L I C) (by simp[h1]);have z:=q_ h;clear h h1;go_enter Tryz.func123,Tryz.ntmps123
  go_wp2_with fail;go_ret;exact A_ z.o.symm D.o
end
section
open Go Go.RowKit Go.Shelf Go.Lib Go.Sort Go.Proofs Go.Maps
end
section
open Go Go.RowKit Go.Maps
def h2_ (F:Nat->Prop) (w:QV) (q j:Nat) (T:List e_) (c:fv_):Prop:=
 ∃(b:Nat) (ix:List Nat) (cs:Nat->Array XZ) (S s:XZ) (at_ en:Nat->Nat),gh_ F q b j T ix cs S s c.way.length at_ en w/\h1_ (Kof T ix) (ae_ j) c at_ en
section
variable {F:Nat->Prop} {q c j:Nat} {T:List e_} {ix:List Nat} {cs:Nat->Array XZ} {S s:XZ} {d:Nat} {at_ en:Nat->Nat} {w w':QV}
end
theorem h2_.on {F:Nat->Prop} {w w':QV} {q j:Nat} {T:List e_} {c:fv_} (h:h2_ F w q j T c) (hb:XU w.heap.size w w'):h2_ F w' q j T c:=by obtain⟨b,ix,cs,S,s,at_,en,f,e⟩:=h;exact⟨b,ix,cs,S,s,at_,en,f.on hb,e⟩
theorem h1_.stood {K:List e_} {w:Way} {c:fv_} {at_ en:Nat->Nat} (h:h1_ K w c at_ en):decide (0<c.way.length/\at_ c.way.length<en c.way.length)=(decide (0<c.way.length) && !c.fin):=by
 by_cases h0:0<c.way.length
 ·have:=h.stands h0
  cases hf:c.fin with
  | true=>
   rw[hf]at this;rw[decide_eq_false (λh=>by have:=this.1 h.2;cases this)];simp
  | false=>
   rw[hf]at this;rw[decide_eq_true ⟨h0,this.2 rfl⟩,decide_eq_true h0];rfl
 ·rw[decide_eq_false (λh=>h0 h.1),decide_eq_false h0];rfl
theorem ck_ {P:Program} {e:Func} {a u:Tmp} {T z:TypeId} {w:QV} (h:e.results=#[.cell a T,.tmp u]) {b:Array XZ} {g:Nat} (ht:b.getD a undef = YX (QJ ⟨g,0,QY⟩)) {c:Array XZ} (C:w.heap[g]?=QJ (XX c z (0,0)))
    (d:TypeDesc) (B:P.underlying T=QJ d) (A:d.isRow=true) (hi:(P.info? T).map (·.size)=QJ c.size) {x:XZ} (D:b.getD u undef=x):(results e b).run P w = .ok (.tuple #[.agg c,x]) w:=by
 have:=run_loadVar_mid (P:=P) w g 0 T c.toList d (m_ C) B A (by rw[Array.length_toList];exact hi);rw[Array.toArray_toList]at this;have f:b[a]?.getD undef = YX (QJ ⟨g,0,QY⟩):=by rw[<-ht];simp
 have r:b[u]?.getD undef=x:=by rw[<-D];simp
 simp[results,h,f,asAddr,this,r]
def oi_ (t:ByteArray):g_:=.mk 8 false 0 t ⟨#[]⟩ []
theorem F0_ (t:e_) (W:QV):(Instr.build 41 #[(0,.agg (c_ t.s (QQ QY 0 0))),(1,.agg (c_ t.p (QQ QY 0 0))),(2,.agg (c_ t.o (QQ QY 0 0)))]).run QW W = .ok (.agg (K_ t us_)) W:=by kernel_rfl
section
variable {P:Program} {ops:Array Oper} {rest:List Oper} {op:Oper} {a:Act} {w:QV} {Q:Exit->Act->QV->Prop}
theorem t7_ (f:op.guard=QY) (ty:TypeId) (n:Nat) (b:Array (Nat×Operand)) (A:op.op = .buildSlice ty n b) (ps:Array (Nat×XZ)) (r:(b.map λ(i,x)=>(i,a.eval x))=ps) (v:XZ) (w':QV) (B:(Instr.buildSlice ty n ps).run P w = .ok v w') (h:wpList P ops Q rest (a.put op.dst v) w'):wpList P ops Q (op::rest) a w:=
 wpList_plain f λ_ z=>by
  unfold Oper.wp execOp;simp only[A];have e:(Instr.buildSlice ty n (b.map λ(i,x)=>(i,a.eval x))).run P w = .ok v w':=by rw[r];exact B
  simp only[Sem.run_bind,Sem.run_pure,e,Result.andThen_ok];exact z _ _ h
end
def e_.set (t:e_) (p:Nat) (v:g_):e_:=if p=0 then ⟨v,t.p,t.o⟩ else if p=1 then ⟨t.s,v,t.o⟩ else ⟨t.s,t.p,v⟩
end
section
open Go
section
variable {T:List e_} {w:Way}
end
def wv (w:Way) (t:e_) (d:Nat):List g_:=[t.get (w.get 0),t.get (w.get 1),t.get (w.get 2)].take d
section
variable {T K:List e_} {w:Way}
theorem Av_ (t:e_) {d:Nat} (b:d<=3):(wv w t d).length=d:=by unfold wv;rw[List.length_take];simp only[List.length_cons,List.length_nil];omega
theorem Mj_ (t:e_) {d e:Nat} (b:e<d) (f:d<=3):(wv w t d)[e]?=some (t.get (w.get e)):=by unfold wv;rw[List.getElem?_take_of_lt b];rcases (show e=0\/e=1\/e=2 by omega) with rfl | rfl | rfl<;>rfl
theorem Ce_ {t u:e_} {d:Nat} (f:d<=3):bk_ w (wv w t d) u↔∀e,e<d->u.get (w.get e)=t.get (w.get e):=by
 constructor
 ·intro h e x;exact h e _ (Mj_ t x f)
 ·intro h e v b;have r:e<d:=by have:=(List.getElem?_eq_some_iff.1 b).1;rwa [Av_ t f]at this
  rw[Mj_ t r f]at b;injection b with b;rw[<-b];exact h e r
theorem A6_ (h:ht_ T K w) {x:e_} {d:Nat} (L:d<=3) {n m r:Nat} {s t u:e_} (C:K[n]?=QJ s) (ht:K[m]?=QJ t) (M:K[r]?=QJ u) (h1:n<=m) (h2:m<=r)
    (f:bk_ w (wv w x d) s) (z:bk_ w (wv w x d) u):bk_ w (wv w x d) t:=by
 rw[Ce_ L]at f z ⊢;intro e;induction e using Nat.strongRecOn with
 | _ e D=>
  intro B;have I:=j8_ (d:=e) (by omega) (h.le C ht h1) λb A=>by rw[f b (by omega),D b A (by omega)];exact eb_ _
  have J:=j8_ (d:=e) (by omega) (h.le ht M h2) λb A=>by rw[z b (by omega),D b A (by omega)];exact eb_ _
  rw[f e B]at I;rw[z e B]at J;have O:=fa_ (t.get (w.get e)) (x.get (w.get e));have N:ah_ (x.get (w.get e)):=by rw[<-f e B];exact (h.scal' C).get _
  exact e3_ ((h.scal' ht).get _) N (by omega)
def DnA (K:List e_) (w:Way) (m d:Nat) (c:fv_):Prop:=∃t,K[m]?=QJ t/\d<3/\c=⟨wv w t d,false⟩/\∀n u,n<m->K[n]?=QJ u->¬bk_ w (wv w t d) u
def UpA (K:List e_) (w:Way) (m d:Nat) (c:fv_):Prop:=∃s,K[m]?=QJ s/\d<3/\c=⟨wv w s (d+1),false⟩/\∀n u,m<n->K[n]?=QJ u->¬bk_ w (wv w s (d+1)) u
theorem Gn_ (b:0<K.length):DnA K w 0 0 ⟨[],false⟩:=⟨K[0],XQ b,by omega,rfl,λn u h=>absurd h (by omega)⟩
end
end
section
open Go Go.RowKit Go.Maps
theorem ov_:(Tryz.prog.info? 41).map (λi=>(i.zero,i.size,i.bytes))=QJ (QJ (.agg #[QK QU 0,XK false,QK QU 0,QZ ⟨#[]⟩,QZ ⟨#[]⟩,QQ QY 0 0,QK QU 0,XK false,QK QU 0,QZ ⟨#[]⟩,QZ ⟨#[]⟩,QQ QY 0 0,QK QU 0,XK false,QK QU 0,QZ ⟨#[]⟩,QZ ⟨#[]⟩,QQ QY 0 0]),18,240):=by kernel_rfl
theorem Js_ {op:Oper} {a:Act} {K:Act->QV->Prop} {Q:Exit->Act->QV->Prop} (s x:Operand) (ho:op.op = .call { callee:=.builtin .append,args:=#[s,x],argTypes:=#[22,22] })
    {wr:QV} {F:Nat->Prop} {L:List e_} {S:XZ} {t:e_} {c:Array XZ} {n:Nat} (hS:a.eval s=S) (B:D_ 41 18 TrS wr F L S) (hL:L.length=n) (hx:a.eval x = QQ (QJ ⟨wr.heap.size,0,QY⟩) 1 1) (z:∀w F,TrS w F t c) (a0:n<=1000000) (Z:∀b,F b->b<wr.heap.size)
    (h:∀g cap w',D_ 41 18 TrS w' (λb=>F b\/b=g) (L++[t]) (QQ (QJ ⟨g,0,QY⟩) (n+1) cap)->wr.grownBy w' S.ownBlock->(S.ownBlock=QJ g\/wr.heap.size<=g)->g<w'.heap.size->K (a.put op.dst (QQ (QJ ⟨g,0,QY⟩) (n+1) cap)) w') :
    op.wp QW a (wr.alloc (XX c 41)) K Q:=by
 subst hL;obtain⟨i0,hi,N,O,U⟩:=info_parts ov_;obtain⟨cs,f,Y,C,hr⟩:=B;have r:c.size=18:=by obtain⟨_,_,ss,_,e⟩:=z wr F;rw[e];rfl
 have D:∀u∈c.toList,u.oneCell'=true:=by obtain⟨_,_,ss,hs,e⟩:=z wr F;rw[e];exact cf_ t ss λq hq=>by obtain⟨A,cp,e⟩:=hs q hq;exact⟨A,0,cp,e⟩
 refine wp_append_lies _ s x _ ho 0 41 i0 _ 18 240 Tryz.underlying22 hi N O U rfl (by decide) S L.length (T_ cs L.length) hS (f.alloc _) ⟨wr.heap.size,0,none⟩ 1 1 c.toList hx (by rw[Array.length_toList,r]) (World.news_of_block (heap_alloc_new wr _)) D (by omega) (by unfold maxLen;omega) (by omega) (Nat.zero_le _) (wr.heap.size+1) (by simp) λg cap w' h1 h2 W X=>?_;have I:=az_ h2;have J:S.ownBlock=some g\/wr.heap.size<=g:=W.imp id (λe=>by rw[e];omega);have M:=D_.snoc (x:=t) (c:=c) (G:=λ_=>False) TrS.good ⟨cs,f,Y,C,hr⟩ (z _ _) r (λb hb=>hb.elim) Z (λb hb=>hb.elim) (λa1 V=>by rw[o0_ V f];exact h1) I J;exact h g cap w' (M.mono TrS.good λb hb=>by rcases hb with hb | hb | hb;exact .inl hb;exact hb.elim;exact .inr hb) I J X
theorem Fx_ (B C D I J L M N O U b e f h r x z A:XZ) (w:QV):(Instr.buildSlice 22 1 #[(0,.agg #[B,C,D,I,J,L,M,N,O,U,b,e,f,h,r,x,z,A])]).run QW w = .ok (QQ (QJ ⟨w.heap.size,0,QY⟩) 1 1) (w.alloc (XX #[B,C,D,I,J,L,M,N,O,U,b,e,f,h,r,x,z,A] 41)):=by kernel_rfl
theorem i5_ (c:Array XZ) (b:c.size=18) (w:QV):(Instr.buildSlice 22 1 #[(0,.agg c)]).run QW w = .ok (QQ (QJ ⟨w.heap.size,0,QY⟩) 1 1) (w.alloc (XX c 41)):=by
 obtain⟨l⟩:=c;match l,b with
 | [x0,x1,x2,x3,x4,x5,x6,x7,x8,x9,x10,x11,x12,x13,x14,x15,x16,x17],_=>exact Fx_ x0 x1 x2 x3 x4 x5 x6 x7 x8 x9 x10 x11 x12 x13 x14 x15 x16 x17 w
end
section
open Go
def WkA (K:List e_) (w:Way) (m d:Nat) (c:fv_) (wt:e_) (G:List e_):Prop:=DnA K w m d c/\(∀t,K[m]?=QJ t->∀e,e<d->wt.get e=t.get (w.get e))/\G=K.take m
def WkB (K:List e_) (w:Way) (m d:Nat) (c:fv_) (wt:e_) (G:List e_):Prop:=UpA K w m d c/\(∀t,K[m]?=QJ t->∀e,e<d+1->wt.get e=t.get (w.get e))/\G=K.take (m+1)
section
variable {T K:List e_} {w:Way} {m d:Nat} {c:fv_} {wt:e_} {G:List e_}
theorem WkA.start (f:0<K.length) (wt:e_):WkA K w 0 0 ⟨[],false⟩ wt []:=⟨Gn_ f,λ_ _ e b=>absurd b (by omega),rfl⟩
theorem WkA.len (h:WkA K w m d c wt G):c.way.length=d/\d<3/\m<K.length:=by obtain⟨⟨t,ht,b,rfl,_⟩,_,_⟩:=h;exact⟨Av_ t (by omega),b,(List.getElem?_eq_some_iff.1 ht).1⟩
theorem WkB.len (h:WkB K w m d c wt G):c.way.length=d+1/\d<3/\m<K.length:=by obtain⟨⟨t,ht,b,rfl,_⟩,_,_⟩:=h;exact⟨Av_ t (by omega),b,(List.getElem?_eq_some_iff.1 ht).1⟩
def Op_ (m d:Nat):Nat:=8*m+d
def Oq_ (m d:Nat):Nat:=8*m+5-d
end
end
section
open Go Go.RowKit Go.Maps
def OpR:bu_ (Int×g_):=λw F o c=>∃s,c=#[QK QU o.1]++c_ o.2 s/\VRd w F o.2 (.agg (c_ o.2 s))
theorem OpR.good:OpR.Good:=⟨fun⟨s,e,h⟩ hk=>⟨s,e,h.keep hk⟩,fun⟨s,e,h⟩ hF=>⟨s,e,h.mono hF⟩⟩
theorem OpR.cells {w:QV} {F:Nat->Prop} {L:List (Int×g_)} {A:Option Addr} {n:Nat} (h:SRd 7 OpR w F L A n) {k:Nat} {o:Int×g_} (x:L[k]?=QJ o) :
    ∃ad s,A=QJ ad/\F ad.block/\w.cell? (ad.add (k*7))=QJ (QK QU o.1)/\(∀j,j<(c_ o.2 s).size->w.cell? (((ad.add (k*7)).add 1).add j)=(c_ o.2 s)[j]?)/\VRd w F o.2 (.agg (c_ o.2 s)):=by
 obtain⟨ad,c,e,r,B,b,s,rfl,z⟩:=h.at_ x;refine⟨ad,s,e,r,?_,λj f=>?_,z⟩
 ·have:=b 0 (by omega);rw[Nat.add_zero]at this;rw[this];rfl
 ·have f:j<6:=f;have:=b (1+j) (by omega);rw[add_of_add,add_of_add,this,Array.getElem?_append_right (by show 1<=1+j;omega)];congr 1
  show 1+j-1=j;omega
structure Two (F:Nat->Prop) (w0:QV) (q1 q2 j:Nat) (T:List e_) (c d:fv_) (wx:QV):Prop where
 b:XU w0.heap.size w0 wx
 c1:h2_ F wx q1 j T c
 c2:h2_ F wx q2 j T d
 ne:q1≠q2
 l1:w0.heap.size<=q1
 l2:w0.heap.size<=q2
section
variable {F:Nat->Prop} {w0 w w':QV} {q1 q2 j:Nat} {T:List e_} {c d:fv_}
theorem h2_.turn {q:Nat} (h:h2_ F w q j T c) {S:Nat->Prop} (ht:Turn S w w') (h1:∀b,F b->¬S b) (h2:¬S q):h2_ F w' q j T c:=by obtain⟨e,ix,cs,S,s,at_,en,r,f⟩:=h;exact⟨e,ix,cs,S,s,at_,en,r.turn ht h1 h2,f⟩
theorem h2_.lt {q:Nat} (h:h2_ F w q j T c):q<w.heap.size:=by obtain⟨e,ix,cs,S,s,at_,en,b,f⟩:=h;exact b_ b.cur
theorem Two.on (h:Two F w0 q1 q2 j T c d w) (hb:XU w.heap.size w w'):Two F w0 q1 q2 j T c d w':=
 ⟨h.b.trans (hb.mono h.b.size),h.c1.on hb,h.c2.on hb,h.ne,h.l1,h.l2⟩
end
theorem u3_ (w:QV) (F:Nat->Prop) {v:g_} (h:v.list=[]) (A:Option Addr) (cap:Nat):VRd w F v (.agg (c_ v (QQ A 0 cap))):=by have:=VRd.mk (w:=w) (F:=F) v A cap ⟨0,0,none⟩ (λ_=>#[]) (by rw[h];exact Nat.zero_le _) (by rw[h];intro h;cases h) (by rw[h];intro i h;cases h) (by rw[h];intro i x h;simp at h);rw[h]at this;exact this
theorem jl_ (a b:g_) (I:Z_ a.list<=999999999) (F G:Nat->Prop) (e f:XZ) (w:QV) (h:∀g,F g->g<w.heap.size) (r:∀g,G g->g<w.heap.size) (h1:VRd w F a e) (h2:VRd w G b f) :
    Calls QW 22 #[e,f] w (p_ (c6_ a b) w):=by
 obtain⟨A,ca,rfl,_,la⟩:=h1.inv;obtain⟨B,cb,rfl,_,lb⟩:=h2.inv;exact td_ a b A B ca cb w h r la lb (λw' x z C D=>Lo_ (Z_ a.list+1) a.list b.list (by omega) F G A B _ _ ca cb w' (by omega) C D x z)
structure o6_ (v:g_):Prop where
 list:v.list=[]
 fit:bt_ v
 k5:v.kind≠5
theorem Ed_ {a b:g_} (e:o6_ a) (hb:o6_ b) (A B:Option Addr) (ca cb:Nat) (w:QV) :
    Calls QW 22 #[.agg (c_ a (QQ A 0 ca)),.agg (c_ b (QQ B 0 cb))] w (p_ (c6_ a b) w):=
 jl_ a b (by rw[e.list];decide) (λ_=>False) (λ_=>False) _ _ w (λ_ h=>h.elim) (λ_ h=>h.elim) (u3_ w _ e.list A ca) (u3_ w _ hb.list B cb)
section
variable {P:Program} {ops:Array Oper} {rest:List Oper} {op:Oper} {a:Act} {w:QV} {Q:Exit->Act->QV->Prop}
theorem E_ (b:Region.wanted op (yielded ops a.tmps)=true) (ty:TypeId) (x:Operand) (z:op.op = .load ty x) {p:Addr} (B:a.eval x = .pointer (QJ p)) (c:Array XZ) (d:TypeDesc) (f:∀j,j<c.size->w.cell? (p.add j)=c[j]?)
    (A:P.underlying ty=QJ d) (r:d.isRow=true) (hi:(P.info? ty).map (·.size)=QJ c.size) (h:wpList P ops Q rest (a.put op.dst (.agg c)) w):wpList P ops Q (op::rest) a w:=
 wpList_step λK e=>by
  rw[if_pos b];unfold Oper.wp execOp;simp only[z,B,Instr.loadAt,Instr.sureAddr,Sem.run_bind,Sem.run_pure,Result.andThen_ok,S_ w p ty c d f A r hi];exact e _ _ h
end
theorem Ah_ {w:QV} {g:Nat} {c:Array XZ} {T:TypeId} {b:Nat×Nat} (h:w.heap[g]?=QJ (XX c T b)) (j:Nat) (_:j<c.size):w.cell? ((⟨g,0,QY⟩:Addr).add j)=c[j]?:=by rw[Addr.add_mid,Nat.zero_add];exact cell_of_row w g j c T b h
theorem N_ (a:Addr) (j:Nat):(a.add j).block=a.block:=by unfold Addr.add;split<;>rfl
theorem Ag_ {w:QV} {F:Nat->Prop} {cs:Nat->Array XZ} {T:List e_} {A:Option Addr} {n cap:Nat} (h:n0_ F w cs T (QQ A n cap)) {k:Nat} {t:e_} (ht:T[k]?=QJ t) :
    ∃ad ss,A=QJ ad/\F ad.block/\(∀i,i<3->∃A cap,ss i = QQ A 0 cap)/\∀j,j<(K_ t ss).size->w.cell? ((ad.add (k*18)).add j)=(K_ t ss)[j]?:=by
 obtain⟨h0,A',x,e,_,h2⟩:=h;injection e with e1 e2 e3;have I:=(List.getElem?_eq_some_iff.1 ht).1;obtain⟨r,z,B,C⟩:=h2 (by omega);obtain⟨_,_,ss,f,b⟩:=h0 k t ht;refine⟨⟨r,0,QY⟩,ss,by rw[e1,z],B,f,λj D=>?_⟩;rw[add_of_add,Addr.add_mid,Nat.zero_add,<-b];exact C k I j D
theorem I4_ {w:QV} {F:Nat->Prop} {cs:Nat->Array XZ} {T:List e_} {S:XZ} (h:n0_ F w cs T S):∃A cap,S = QQ A T.length cap:=by obtain⟨_,A,cap,e,_,_⟩:=h;exact⟨A,cap,e⟩
theorem m1_ (t:e_) (ss:Nat->XZ) (W:QV):(Instr.build 41 #[(0,.agg (c_ (t.get 0) (ss 0))),(1,.agg (c_ (t.get 1) (ss 1))),(2,.agg (c_ (t.get 2) (ss 2)))]).run QW W = .ok (.agg (K_ t ss)) W:=by kernel_rfl
def Fa_ (T:List e_) (w:QV) (e:Ending) (w':QV):Prop:=∃v,e = XW v/\D_ 41 18 TrS w' (λb=>w.heap.size<=b/\b<w'.heap.size) T v/\XU w.heap.size w w'
structure tt_ (w:QV) (T:List e_) (S:XZ) (wx:QV):Prop where
 hb:XU w.heap.size w wx
 own:D_ 41 18 TrS wx (λb=>w.heap.size<=b/\b<wx.heap.size) T S
theorem tt_.on {w wx w':QV} {T:List e_} {S:XZ} (h:tt_ w T S wx) (hb:XU wx.heap.size wx w'):tt_ w T S w':=
 ⟨h.hb.trans (hb.mono h.hb.size),(h.own.turn TrS.good (Turn.of_below hb) (λb hb=>hb.2) (λb hb=>λe=>by have e:wx.heap.size<=b:=e;have:=hb.2;omega)).mono TrS.good λb h1=>⟨h1.1,XY h1.2 hb.size⟩⟩
theorem tt_.more {w wr w':QV} {g cap n:Nat} {S:XZ} {T:List e_} {t:e_} (h:tt_ w T S wr) (f:wr.grownBy w' S.ownBlock) (z:S.ownBlock=QJ g\/wr.heap.size<=g) (r:g<w'.heap.size)
    (A:D_ 41 18 TrS w' (λb=>(w.heap.size<=b/\b<wr.heap.size)\/b=g) (T++[t]) (QQ (QJ ⟨g,0,QY⟩) n cap)):tt_ w (T++[t]) (QQ (QJ ⟨g,0,QY⟩) n cap) w':=by
 have e:∀b,S.ownBlock=QJ b->w.heap.size<=b/\b<wr.heap.size:=λb hb=>by
  obtain⟨_,_,_,x,_⟩:=h.own;exact x b hb
 refine⟨i_ h.hb (Turn.of_grown f) (λb hb=>(e b hb.symm).1),A.mono TrS.good λb hb=>?_⟩;rcases hb with hb | rfl
 ·exact⟨hb.1,XY hb.2 f.size⟩
 ·refine⟨?_,r⟩;rcases z with h1 | h1
  ·exact (e _ h1).1
  ·exact YK h.hb.size h1
theorem J4_ {F:Nat->Prop} {w:QV} {c:Nat} {T:List e_} (h:i1_ F w c T) (hF:∀b,F b->b<w.heap.size) :
    Calls QW 17 #[YX (QJ ⟨c,0,QY⟩)] w (Fa_ T w):=by
 obtain⟨S,ss,cs,h1,h2,_⟩:=h.cells;obtain⟨A,cp,rfl⟩:=I4_ h2;have HR:=q_ (λ(W:QV) (hb:XU w.heap.size w W)=>h2.keep (w':=W) λp hp=>hb.cell (hF _ hp));have HS:=q_ h.scal;have aa:=q_ h.fit;obtain⟨n,M⟩:=a_ T.length;have HN:=q_ (show n<=65536 from by rw[<-M.o];exact h.len);rw[M.o]at HR h1;have c0:w.cell? ⟨c,0,QY⟩=QJ (QQ A n cp):=QX h1 0;have ac:=q_ (show tt_ w [] (QQ QY 0 0) w from ⟨XV _ _,D_.nil ..⟩);clear h h1 h2 hF;go_enter Tryz.func17,Tryz.ntmps17
 go_wp2_with fail;go_loopw [3,11] (λs3 am wx=>∃(k:Nat) (S:XZ),k<=n/\am = QK QU (k:Nat)/\S=s3/\Q_ (tt_ w (T.take k) S wx)) (λ_ s _=>n-(intOf s).toNat)
 case atStart=>exact⟨0,_,by omega,rfl,rfl,q_ ac.o⟩
 case round=>
  obtain⟨k,S,hk,rfl,rfl,N⟩:=hrel;by_cases ak:k<n
  ·obtain⟨t,ht⟩:∃t,T[k]?=QJ t:=⟨_,XQ (by rw[M.o];exact ak)⟩;have HT:=q_ ht;obtain⟨ad,ss,rfl,_,f,hq⟩:=Ag_ (HR.o wr N.o.hb) ht;have Z:=q_ (λ(w:QV) (F:Nat->Prop)=>(show TrS w F t (K_ t ss) from ⟨HS.o t (YQ ht),aa.o t (YQ ht),ss,f,rfl⟩));have J:=q_ (m1_ t ss);have z:=Jl_ (t:=t) f;obtain⟨A0,q0,e0⟩:=f 0 (by omega);obtain⟨A1,q1,e1⟩:=f 1 (by omega);obtain⟨A2,q2,e2⟩:=f 2 (by omega);clear ht f;obtain⟨r,e⟩:=be_ t ss;rw[e.o]at hq z Z J;obtain⟨O,B⟩:=v_ (t.get 0) (ss 0);obtain⟨U,C⟩:=v_ (t.get 1) (ss 1);obtain⟨V,D⟩:=v_ (t.get 2) (ss 2);rw[B.o,C.o,D.o]at J;have HQ:=q_ hq;have a8:=q_ z;have Z1:=q_ e.size;have Q1:=q_ (ey_.trans (congrArg QJ e.size.symm));have QP:=q_ (show (Tryz.prog.info? 99).map (·.size)=QJ r.size from by rw[Z1.o];kernel_rfl);have ae:=q_ (ad_.trans (congrArg QJ B.size.symm));have af:=q_ (ad_.trans (congrArg QJ C.size.symm));have ag:=q_ (ad_.trans (congrArg QJ D.size.symm));clear hq z e0 e1 e2;have a1:(0:Int)<=k:=by omega
   have a2:(k:Int)<n:=by omega
   have w1:IntKind.i64.wrap ((k:Int)+1)=(k:Int)+1:=IntWalk.i64_in _ (by have:=HN.o;omega);obtain⟨x,I⟩:=a_ wr.heap.size;have X:=q_ (show (wr.alloc (XX #[QK QU 0,XK false,QK QU 0,QZ ⟨#[]⟩,QZ ⟨#[]⟩,QQ QY 0 0,QK QU 0,XK false,QK QU 0,QZ ⟨#[]⟩,QZ ⟨#[]⟩,QQ QY 0 0,QK QU 0,XK false,QK QU 0,QZ ⟨#[]⟩,QZ ⟨#[]⟩,QQ QY 0 0] 99)).heap[x]?=QJ (XX #[QK QU 0,XK false,QK QU 0,QZ ⟨#[]⟩,QZ ⟨#[]⟩,QQ QY 0 0,QK QU 0,XK false,QK QU 0,QZ ⟨#[]⟩,QZ ⟨#[]⟩,QQ QY 0 0,QK QU 0,XK false,QK QU 0,QZ ⟨#[]⟩,QZ ⟨#[]⟩,QQ QY 0 0] 99 (0,0)) from by rw[<-I.o];exact heap_alloc_new wr _)
   go_upto_region 5 with (first
    | ((with_reducible refine d_ (some 14) ?_);refine ur_ rfl 99 _ rfl rfl r _ HQ.o Tryz.underlying99 rfl QP.o ?_)
    | ((with_reducible refine y_ 5 ?_);refine r_ rfl 99 _ _ rfl x (#[QK QU 0,XK false,QK QU 0,QZ ⟨#[]⟩,QZ ⟨#[]⟩,QQ QY 0 0,QK QU 0,XK false,QK QU 0,QZ ⟨#[]⟩,QZ ⟨#[]⟩,QQ QY 0 0,QK QU 0,XK false,QK QU 0,QZ ⟨#[]⟩,QZ ⟨#[]⟩,QQ QY 0 0]) r 99 (by rw[<-I.o];rfl) rfl X.o Z1.o QP.o a8.o ?_;intro w5 a6 a5))
   rw[I.o];have a9:=q_ (show XU wr.heap.size wr w5 from i4_ (by rw[I.o];exact a5));have L:=q_ a6;clear a6 a5 HQ X;have Y:=q_ (N.o.on a9.o);have ah:=q_ (λi (hi:i<O.size)=>(show w5.cell? ((⟨x,0,QY⟩:Addr).add i)=O[i]? from by rw[Addr.add_mid,cell_of_row w5 x (0+i) r _ _ L.o,<-B.o,<-e.o];exact u_ t ss 0 (by omega) i (by rwa [B.size]at hi)));have ai:=q_ (λi (hi:i<U.size)=>(show w5.cell? ((⟨x,6,QY⟩:Addr).add i)=U[i]? from by rw[Addr.add_mid,cell_of_row w5 x (6+i) r _ _ L.o,<-C.o,<-e.o];exact u_ t ss 1 (by omega) i (by rwa [C.size]at hi)));have aj:=q_ (λi (hi:i<V.size)=>(show w5.cell? ((⟨x,12,QY⟩:Addr).add i)=V[i]? from by rw[Addr.add_mid,cell_of_row w5 x (12+i) r _ _ L.o,<-D.o,<-e.o];exact u_ t ss 2 (by omega) i (by rwa [D.size]at hi)))
   go_wp2_with (first
    | ((with_reducible refine d_ (some 17) ?_);refine E_ (by rfl) 39 _ rfl rfl O _ ah.o YZ rfl ae.o ?_)
    | ((with_reducible refine d_ (some 19) ?_);refine E_ (by rfl) 39 _ rfl rfl U _ ai.o YZ rfl af.o ?_)
    | ((with_reducible refine d_ (some 21) ?_);refine E_ (by rfl) 39 _ rfl rfl V _ aj.o YZ rfl ag.o ?_)
    | ((with_reducible refine d_ (some 22) ?_);refine af_ rfl 41 _ rfl #[(0,.agg O),(1,.agg U),(2,.agg V)] (by kernel_rfl) (.agg r) (J.o _) ?_)
    | ((with_reducible refine d_ (some 23) ?_);refine t7_ rfl 22 1 _ rfl #[(0,.agg r)] (by kernel_rfl) (QQ (QJ ⟨w5.heap.size,0,QY⟩) 1 1) _ (i5_ r Z1.o w5) ?_)
    | ((with_reducible refine d_ (some 24) ?_);refine wpList_plain rfl λK hK=>?_;refine Js_ (.tmp 15) (.tmp 23) rfl rfl Y.o.own (show (T.take k).length=k from by rw[List.length_take,M.o];omega) rfl Z.o (by have:=HN.o;omega) (λb hb=>hb.2) (λg7 c7 w7 a4 a0 a3 a7=>hK _ _ ?_);clear hK K))
   have ab:=q_ (Y.o.more a0 a3 a7 a4);clear a4 a0 a3 a7;go_wp2_with fail;go_roundw
   case rel=>exact⟨k+1,_,by omega,by go_num,rfl,q_ (by rw[f_ HT.o];exact ab.o)⟩
   case measure=>simp[intOf];omega
  ·have a2:¬(k:Int)<n:=by omega
   have HE:=q_ (show Fa_ T w (XW S) wr from ⟨S,rfl,by have:=N.o.own;rwa [List.take_of_length_le (by rw[M.o];omega)]at this,N.o.hb⟩);go_wp2_with fail;go_ret;exact HE.o
theorem jk_ {a b:g_}:c6_ a b=true↔a=b:=by
 constructor
 ·intro h;by_cases e:a=b
  ·exact e
  ·rw[b9_ e]at h;cases h
 ·rintro rfl;exact hm_ _
noncomputable def tb_ (a b:e_):Bool:=c6_ (a.get 0) (b.get 0)&&(c6_ (a.get 1) (b.get 1)&&c6_ (a.get 2) (b.get 2))
theorem xz_ {a b:e_}:tb_ a b=true↔a=b:=by
 unfold tb_;rw[YJ,YJ,jk_,jk_,jk_];constructor
 ·rintro⟨h0,h1,h2⟩;exact ye_ (w:=ae_ 0) (dz_ 0) h0 h1 h2
 ·rintro rfl;exact⟨rfl,rfl,rfl⟩
theorem Am_ (a:e_):tb_ a a=true:=xz_.2 rfl
def yu_ (t:e_):Prop:=∀n,o6_ (t.get n)
theorem ow_ {t:e_} (h:cn_ t) (b:∀n,bt_ (t.get n)):yu_ t:=λn=>⟨ec_ (h.get n),b n,by have:=(h.get n).2.1;omega⟩
structure dm_ (c:Array XZ) (t:e_):Prop where
 key:yu_ t
 ex:∃ss:Nat->XZ,(∀i,i<3->∃A cap,ss i = QQ A 0 cap)/\c=K_ t ss
theorem TrS.cellT {w:QV} {F:Nat->Prop} {t:e_} {c:Array XZ} (h:TrS w F t c):dm_ c t:=by obtain⟨h1,h2,ss,b,e⟩:=h;exact⟨ow_ h1 h2,ss,b,e⟩
theorem dm_.size {c:Array XZ} {t:e_} (h:dm_ c t):c.size=18:=by obtain⟨_,ss,_,rfl⟩:=h;rfl
theorem Gx_ {a b:e_} {sa sb:Nat->XZ} {F G:Nat->Prop} (Y:∀n,n<3->Z_ (a.get n).list<=999999999) (w:QV) (D:∀g,F g->g<w.heap.size) (I:∀g,G g->g<w.heap.size)
    (h1:∀n,n<3->VRd w F (a.get n) (.agg (c_ (a.get n) (sa n)))) (h2:∀n,n<3->VRd w G (b.get n) (.agg (c_ (b.get n) (sb n)))) :
    Calls QW 23 #[.agg (K_ a sa),.agg (K_ b sb)] w (p_ (tb_ a b) w):=by
 obtain⟨ca,J⟩:=be_ a sa;obtain⟨cb,L⟩:=be_ b sb;rw[J.o,L.o];obtain⟨z,Hz⟩:=a_ w.heap.size;obtain⟨w2,C⟩:=a_ ((w.alloc (XX ca 41)).alloc (XX cb 41));have a2:=q_ (show XU w.heap.size w w2 from by rw[<-C.o];exact B_ w _ _);have A:=q_ (show w2.heap[z]?=QJ (XX ca 41 (0,0)) from by rw[<-C.o,<-Hz.o];exact heap_alloc2_old w _ _);have B:=q_ (show w2.heap[z+1]?=QJ (XX cb 41 (0,0)) from by rw[<-C.o,<-Hz.o];exact heap_alloc2_new w _ _);have f:=q_ (show ∀W,XU w2.heap.size w2 W->XU w.heap.size w W from λW hb=>a2.o.trans (hb.mono a2.o.size));obtain⟨u0,M⟩:=v_ (a.get 0) (sa 0);obtain⟨v0,U⟩:=v_ (b.get 0) (sb 0);have aa:=q_ (ad_.trans (congrArg QJ M.size.symm));have ad:=q_ (ad_.trans (congrArg QJ U.size.symm));have ag:=q_ (λ(W:QV) (hb:XU w2.heap.size w2 W) i (hi:i<u0.size)=>(show W.cell? ((⟨z,0,QY⟩:Addr).add i)=u0[i]? from by rw[Addr.add_mid,cell_of_row W z (0+i) ca _ _ ((hb.block z (b_ A.o)).trans A.o),<-M.o,<-J.o];exact u_ a sa 0 (by omega) i (by rwa [M.size]at hi)));have aj:=q_ (λ(W:QV) (hb:XU w2.heap.size w2 W) i (hi:i<v0.size)=>(show W.cell? ((⟨z+1,0,QY⟩:Addr).add i)=v0[i]? from by rw[Addr.add_mid,cell_of_row W (z+1) (0+i) cb _ _ ((hb.block (z+1) (b_ B.o)).trans B.o),<-U.o,<-L.o];exact u_ b sb 0 (by omega) i (by rwa [U.size]at hi)));have Z:=λ(W:QV) (hb:XU w.heap.size w W)=>jl_ (a.get 0) (b.get 0) (Y 0 (by omega)) F G _ _ W (λg h=>XY (D g h) hb.size) (λg h=>XY (I g h) hb.size) ((h1 0 (by omega)).under hb D) ((h2 0 (by omega)).under hb I);rw[M.o,U.o]at Z;have a3:=q_ Z;clear Z;obtain⟨t0,a7⟩:=a_ (c6_ (a.get 0) (b.get 0));rw[a7.o]at a3;obtain⟨u1,N⟩:=v_ (a.get 1) (sa 1);obtain⟨v1,V⟩:=v_ (b.get 1) (sb 1);have ab:=q_ (ad_.trans (congrArg QJ N.size.symm));have ae:=q_ (ad_.trans (congrArg QJ V.size.symm));have ah:=q_ (λ(W:QV) (hb:XU w2.heap.size w2 W) i (hi:i<u1.size)=>(show W.cell? ((⟨z,6,QY⟩:Addr).add i)=u1[i]? from by rw[Addr.add_mid,cell_of_row W z (6+i) ca _ _ ((hb.block z (b_ A.o)).trans A.o),<-N.o,<-J.o];exact u_ a sa 1 (by omega) i (by rwa [N.size]at hi)));have ak:=q_ (λ(W:QV) (hb:XU w2.heap.size w2 W) i (hi:i<v1.size)=>(show W.cell? ((⟨z+1,6,QY⟩:Addr).add i)=v1[i]? from by rw[Addr.add_mid,cell_of_row W (z+1) (6+i) cb _ _ ((hb.block (z+1) (b_ B.o)).trans B.o),<-V.o,<-L.o];exact u_ b sb 1 (by omega) i (by rwa [V.size]at hi)));have a0:=λ(W:QV) (hb:XU w.heap.size w W)=>jl_ (a.get 1) (b.get 1) (Y 1 (by omega)) F G _ _ W (λg h=>XY (D g h) hb.size) (λg h=>XY (I g h) hb.size) ((h1 1 (by omega)).under hb D) ((h2 1 (by omega)).under hb I);rw[N.o,V.o]at a0;have a4:=q_ a0;clear a0;obtain⟨t1,a8⟩:=a_ (c6_ (a.get 1) (b.get 1));rw[a8.o]at a4;obtain⟨u2,O⟩:=v_ (a.get 2) (sa 2);obtain⟨v2,X⟩:=v_ (b.get 2) (sb 2);have ac:=q_ (ad_.trans (congrArg QJ O.size.symm));have af:=q_ (ad_.trans (congrArg QJ X.size.symm));have ai:=q_ (λ(W:QV) (hb:XU w2.heap.size w2 W) i (hi:i<u2.size)=>(show W.cell? ((⟨z,12,QY⟩:Addr).add i)=u2[i]? from by rw[Addr.add_mid,cell_of_row W z (12+i) ca _ _ ((hb.block z (b_ A.o)).trans A.o),<-O.o,<-J.o];exact u_ a sa 2 (by omega) i (by rwa [O.size]at hi)));have am:=q_ (λ(W:QV) (hb:XU w2.heap.size w2 W) i (hi:i<v2.size)=>(show W.cell? ((⟨z+1,12,QY⟩:Addr).add i)=v2[i]? from by rw[Addr.add_mid,cell_of_row W (z+1) (12+i) cb _ _ ((hb.block (z+1) (b_ B.o)).trans B.o),<-X.o,<-L.o];exact u_ b sb 2 (by omega) i (by rwa [X.size]at hi)));have a1:=λ(W:QV) (hb:XU w.heap.size w W)=>jl_ (a.get 2) (b.get 2) (Y 2 (by omega)) F G _ _ W (λg h=>XY (D g h) hb.size) (λg h=>XY (I g h) hb.size) ((h1 2 (by omega)).under hb D) ((h2 2 (by omega)).under hb I);rw[O.o,X.o]at a1;have a5:=q_ a1;clear a1;obtain⟨t2,a9⟩:=a_ (c6_ (a.get 2) (b.get 2));rw[a9.o]at a5;unfold tb_;rw[a7.o,a8.o,a9.o];clear h1 h2 Y D I;go_enter Tryz.func23,Tryz.ntmps23
 go_upto_region 1 with fail;rw[C.o,Hz.o];clear C
 go_wp2_with (first
  | ((with_reducible refine d_ (some 6) ?_);refine E_ (by rfl) 39 _ rfl rfl u0 _ (ag.o w2 (XV _ _)) YZ rfl aa.o ?_)
  | ((with_reducible refine d_ (some 8) ?_);refine E_ (by rfl) 39 _ rfl rfl v0 _ (aj.o w2 (XV _ _)) YZ rfl ad.o ?_))
 refine (a3.o _ (f.o _ (XV _ _))).mono ?_;unfold p_;rintro e x0 ⟨rfl,hb⟩;have r:=q_ (show XU w2.heap.size w2 x0 from hb);clear hb
 cases t0 with
 | false=>
  go_wp2_with fail;go_ret;exact⟨rfl,f.o _ r.o⟩
 | true=>
  go_wp2_with (first
   | ((with_reducible refine d_ (some 12) ?_);refine E_ (by rfl) 39 _ rfl rfl u1 _ (ah.o x0 r.o) YZ rfl ab.o ?_)
   | ((with_reducible refine d_ (some 14) ?_);refine E_ (by rfl) 39 _ rfl rfl v1 _ (ak.o x0 r.o) YZ rfl ae.o ?_))
  refine (a4.o _ (f.o _ r.o)).mono ?_;unfold p_;rintro e x1 ⟨rfl,hb⟩;have x:=q_ (show XU w2.heap.size w2 x1 from r.o.trans (hb.mono r.o.size));clear hb
  cases t1 with
  | false=>
   go_wp2_with fail;go_ret;exact⟨rfl,f.o _ x.o⟩
  | true=>
   go_wp2_with (first
    | ((with_reducible refine d_ (some 19) ?_);refine E_ (by rfl) 39 _ rfl rfl u2 _ (ai.o x1 x.o) YZ rfl ac.o ?_)
    | ((with_reducible refine d_ (some 21) ?_);refine E_ (by rfl) 39 _ rfl rfl v2 _ (am.o x1 x.o) YZ rfl af.o ?_))
   refine (a5.o _ (f.o _ x.o)).mono ?_;unfold p_;rintro e x2 ⟨rfl,hb⟩;have a6:=q_ (show XU w2.heap.size w2 x2 from x.o.trans (hb.mono x.o.size));clear hb
   cases t2 with
   | false=>
    go_wp2_with fail;go_ret;exact⟨rfl,f.o _ a6.o⟩
   | true=>
    go_wp2_with fail;go_ret;exact⟨rfl,f.o _ a6.o⟩
def ev_ (f:Nat->Bool) (n:Nat):List XZ:=(List.range n).map λk=>.bool (f k)
theorem go_ (f:Nat->Bool) {n k:Nat} (h:k<n):(ev_ f n)[k]?=QJ (XK (f k)):=by unfold ev_;rw[List.getElem?_map,List.getElem?_range h];rfl
theorem y0_ (f:Nat->Bool) {n k:Nat} (b:Bool):(ev_ f n).set k (XK b)=ev_ (λi=>if i=k then b else f i) n:=by
 refine List.ext_getElem? λi=>?_;by_cases hi:i<n
 ·rw[go_ _ hi,List.getElem?_set];by_cases e:k=i
  ·subst e;rw[if_pos rfl,if_pos (by unfold ev_;simpa using hi),if_pos rfl]
  ·rw[if_neg e,go_ _ hi,if_neg (λh=>e h.symm)]
 ·rw[List.getElem?_eq_none (by unfold ev_;simp;omega),List.getElem?_eq_none (by unfold ev_;simp;omega)]
theorem t6_ {f g:Nat->Bool} {n:Nat} (h:∀i,i<n->f i=g i):ev_ f n=ev_ g n:=by
 refine List.ext_getElem? λi=>?_;by_cases hi:i<n
 ·rw[go_ _ hi,go_ _ hi,h i hi]
 ·rw[List.getElem?_eq_none (by unfold ev_;simp;omega),List.getElem?_eq_none (by unfold ev_;simp;omega)]
structure OnM (w:QV) (g n:Nat) (f:Nat->Bool) (wx:QV):Prop where
 hb:XU w.heap.size w wx
 g0:w.heap.size<=g
 row:wx.ownsRow 0 4 1 (QQ (QJ ⟨g,0,QY⟩) n n) n (ev_ f n)
theorem OnM.on {w wx w':QV} {g n:Nat} {f:Nat->Bool} (h:OnM w g n f wx) (hb:XU wx.heap.size wx w'):OnM w g n f w':=
 ⟨h.hb.trans (hb.mono h.hb.size),h.g0,(Turn.of_below hb).owns h.row (λb r e=>by have e:wx.heap.size<=b:=e;obtain⟨z,x⟩:=ep_ h.row r;have:=b_ x;omega)⟩
theorem OnM.drew {w wx:QV} {g n:Nat} {f:Nat->Bool} (h:OnM w g n f wx):OnM w g n f wx.drew:=h.on (XV _ _).drew
theorem OnM.at_ {w wx:QV} {g n k:Nat} {f:Nat->Bool} (h:OnM w g n f wx) (b:k<n):wx.cell? ⟨g,k,QY⟩=QJ (XK (f k)):=by rw[h.row.cellAt k (by omega)];exact go_ f b
theorem OnM.set {w wx:QV} {g n k:Nat} {f r:Nat->Bool} (h:OnM w g n f wx) (b:Bool) (x:∀i,i<n->r i=if i=k then b else f i):OnM w g n r (wx.setCell ⟨g,k,QY⟩ (XK b)):=by obtain⟨h1,h2⟩:=h.row.stored k (XK b);rw[y0_]at h1;refine⟨i_ h.hb (Turn.of_grown h2) (λq e=>?_),h.g0,by rw[t6_ x];exact h1⟩;injection e with e;rw[e];exact h.g0
structure AtM (w:QV) (c8:Array XZ) (m:List Nat) (S:XZ) (wx:QV):Prop where
 hb:XU w.heap.size w wx
 box:wx.heap[w.heap.size+1]?=QJ (XX c8 99 (0,0))
 row:eh_ w.heap.size S m wx
theorem AtM.on {w wx w':QV} {f:Array XZ} {m:List Nat} {S:XZ} (h:AtM w f m S wx) (hb:XU wx.heap.size wx w'):AtM w f m S w':=
 ⟨h.hb.trans (hb.mono h.hb.size),(hb.block _ (b_ h.box)).trans h.box,h.row.turn (Turn.of_below hb) λb r e=>by have:=(h.row.blk b r).2;have e:wx.heap.size<=b:=e;omega⟩
theorem AtM.more {w wr w':QV} {f:Array XZ} {m:List Nat} {S:XZ} {g cap k n:Nat} (h:AtM w f m S wr) (A:m.length=n) (x:wr.grownBy w' S.ownBlock) (z:S.ownBlock=QJ g\/wr.heap.size<=g) (r:g<w'.heap.size)
    (B:w'.ownsRow 0 3 1 (QQ (QJ ⟨g,0,QY⟩) (n+1) cap) (n+1) (ixC (m++[k]))):AtM w f (m++[k]) (QQ (QJ ⟨g,0,QY⟩) (n+1) cap) w':=by
 have ht:=Turn.of_grown x;refine⟨i_ h.hb ht (λb hb=>by have:=(h.row.blk b hb.symm).1;omega),ht.heap h.box (λe=>cj_ h.row.row h.box (by decide) e.symm),⟨?_,λb hb=>?_⟩⟩
 ·rw[List.length_append,A];exact B
 ·have hb:some g=some b:=hb;injection hb with hb;subst hb;refine⟨?_,r⟩;rcases z with h1 | h1
  ·exact (h.row.blk _ h1).1
  ·have:=b_ h.box;omega
structure B6_ (w:QV) (m:List Nat) (S6:XZ) (L:List e_) (S:XZ) (wx:QV):Prop where
 all:tt_ w L S wx
 row:eh_ w.heap.size S6 m wx
theorem B6_.on {w wx w':QV} {m:List Nat} {f S:XZ} {L:List e_} (h:B6_ w m f L S wx) (hb:XU wx.heap.size wx w'):B6_ w m f L S w':=
 ⟨h.all.on hb,h.row.turn (Turn.of_below hb) λb r e=>by have:=(h.row.blk b r).2;have e:wx.heap.size<=b:=e;omega⟩
theorem B6_.more {w wr w':QV} {m:List Nat} {r S:XZ} {L:List e_} {g cap n:Nat} {t:e_} (h:B6_ w m r L S wr) (x:wr.grownBy w' S.ownBlock) (A:S.ownBlock=QJ g\/wr.heap.size<=g) (z:g<w'.heap.size)
    (B:D_ 41 18 TrS w' (λb=>(w.heap.size<=b/\b<wr.heap.size)\/b=g) (L++[t]) (QQ (QJ ⟨g,0,QY⟩) n cap)):B6_ w m r (L++[t]) (QQ (QJ ⟨g,0,QY⟩) n cap) w':=by
 refine⟨h.all.more x A z B,h.row.turn (Turn.of_grown x) λb hb e=>?_⟩;obtain⟨cs,f,_⟩:=h.all.own;exact jh_ f h.row.row (by decide) b hb e.symm
structure RfM (w:QV) (z:Nat) (c1 c2:Array XZ) (wx:QV):Prop where
 hb:XU w.heap.size w wx
 hp:wx.heap[z+2]?=QJ (XX c2 39 (0,0))
 ht:wx.heap[z+3]?=QJ (XX c1 39 (0,0))
theorem RfM.on {w wx w':QV} {z:Nat} {b e:Array XZ} (h:RfM w z b e wx) (hb:XU wx.heap.size wx w'):RfM w z b e w':=
 ⟨h.hb.trans (hb.mono h.hb.size),(hb.block _ (b_ h.hp)).trans h.hp,(hb.block _ (b_ h.ht)).trans h.ht⟩
theorem RfM.drew {w wx:QV} {z:Nat} {b e:Array XZ} (h:RfM w z b e wx):RfM w z b e wx.drew:=h.on (XV _ _).drew
theorem g8_ (ad:Addr) (n cap a:Nat) (f:a<n) (w:QV):(Instr.indexAt 22 (QQ (QJ ad) n cap) (QK QU (a:Nat))).run QW w = .ok (YX (QJ (ad.add (a*18)))) w:=by
 have b:(0:Int)<=a:=by omega
 have e:(a:Int)<n:=by omega
 go_simp
theorem TrS.cells {w:QV} {F:Nat->Prop} {L:List e_} {A:Option Addr} {n:Nat} (h:SRd 18 TrS w F L A n) {k:Nat} {t:e_} (ht:L[k]?=QJ t) :
    ∃ad c,A=QJ ad/\F ad.block/\dm_ c t/\∀j,j<c.size->w.cell? ((ad.add (k*18)).add j)=c[j]?:=by
 obtain⟨ad,c,e,b,z,f,r⟩:=h.at_ ht;exact⟨ad,c,e,b,r.cellT,λj x=>by rw[add_of_add];exact f j (by omega)⟩
section
variable {K T:List e_} {i k:Nat} {t u:e_}
end
section
variable {P:Program} {T E:TypeId} {sz:Nat}
theorem x7_ (b:P.underlying T=QJ (.slice (P.elem T))) (f:∀W,(sizeOf (P.elem T)).run P W = .ok sz W) {A:Option Addr} {n c k:Nat} (r:k<=n) (x:n<=c) (e:A=QY->c=0) :
    ∃A' c',(∀W,(Instr.sliceAt T (QQ A n c) QY (QJ (QK QU (k:Nat))) QY).run P W = .ok (QQ A' k c') W)/\(A'=QY->c'=0)/\(0<k->A'=A.map (·.add (0*sz))):=by
 refine⟨if c=0 then A else A.map (·.add (0*sz)),c-0,λW=>?_,λh=>?_,λh=>?_⟩
 ·rw[run_sliceAt_slice (h:=b),run_slice_h (ht:=b) (h0:=by omega) (h2:=by omega),f W];rfl
 ·by_cases h0:c=0
  ·omega
  ·rw[if_neg h0,Option.map_eq_none_iff]at h;have:=e h;omega
 ·rw[if_neg (by omega)]
theorem rc_ (b:P.underlying T=QJ (.slice (P.elem T))) (f:∀W,(sizeOf (P.elem T)).run P W = .ok sz W) {A:Option Addr} {n c k:Nat} (r:k<=n) (x:n<=c) (e:A=QY->c=0) :
    ∃A' c',(∀W,(Instr.sliceAt T (QQ A n c) (QJ (QK QU (k:Nat))) QY QY).run P W = .ok (QQ A' (n-k) c') W)/\(A'=QY->c'=0)/\(k<n->A'=A.map (·.add (k*sz))):=by
 refine⟨if c=k then A else A.map (·.add (k*sz)),c-k,λW=>?_,λh=>?_,λh=>?_⟩
 ·rw[run_sliceAt_slice (h:=b),run_slice_l (ht:=b) (h0:=by omega) (h1:=by omega),f W];rfl
 ·by_cases h0:c=k
  ·omega
  ·rw[if_neg h0,Option.map_eq_none_iff]at h;have:=e h;omega
 ·rw[if_neg (by omega)]
end
section
variable {α : Type} {E:TypeId} {sz:Nat} {R:α -> Array XZ->Prop} {w wx w':QV} {S v v':XZ} {l nx:List α}
theorem SRd.at_len {F:Nat->Prop} {A A':Option Addr} {n:Nat} (h:SRd sz (ofP R) w F l A n) (f:0<n->A'=A):SRd sz (ofP R) w F l A' n:=⟨h.1,λb=>by
 obtain⟨ad,e,h1,h2⟩:=h.2 b;exact⟨ad,by rw[f b,e],h1,h2⟩⟩
theorem SRd.part_to {F:Nat->Prop} {A A':Option Addr} {n k:Nat} (h:SRd sz (ofP R) w F l A n) (e:k<=n) (b:0<k->A'=A.map (·.add (0*sz))):SRd sz (ofP R) w F (l.take k) A' k:=by have:=(h.part (lo:=0) (hi:=k) (Nat.zero_le _) e).at_len (A':=A') (λh=>b (by omega));rwa [List.drop_zero,Nat.sub_zero]at this
theorem SRd.part_from {F:Nat->Prop} {A A':Option Addr} {n k:Nat} (h:SRd sz (ofP R) w F l A n) (e:k<=n) (b:k<n->A'=A.map (·.add (k*sz))):SRd sz (ofP R) w F (l.drop k) A' (n-k):=by have:=(h.part (lo:=k) (hi:=n) e (XJ _)).at_len (A':=A') (λh=>b (by omega));rwa [List.take_of_length_le (by rw[List.length_drop,h.1];exact XJ _)]at this
theorem cw_.cell {E:TypeId} (r:fc_ sz R) {A:Option Addr} {n cap:Nat} (h:cw_ E sz R w l (QQ A n cap)) (B:l.length=n) {k:Nat} {x:α} (D:l[k]?=QJ x) :
    ∃ad c,A=QJ ad/\ad.block<w.heap.size/\R x c/\∀j,j<c.size->w.cell? ((ad.add (k*sz)).add j)=c[j]?:=by
 obtain⟨ad,c,e,f,J,z,C⟩:=(h.rd r (F:=λb=>b<w.heap.size) (λb hb=>h.lt hb) B).at_ D;exact⟨ad,c,e,f,C,λj I=>by rw[add_of_add];exact z j (by omega)⟩
structure LdP (E:TypeId) (sz:Nat) (R:α -> Array XZ->Prop) (w:QV) (l:List α) (S:XZ) (wx:QV):Prop where
 hb:XU w.heap.size w wx
 own:cw_ E sz R wx l S
 ow:∀b,S.ownBlock=QJ b->w.heap.size<=b
theorem LdP.on (h:LdP E sz R w l S wx) (hb:XU wx.heap.size wx w'):LdP E sz R w l S w':=⟨h.hb.trans (hb.mono h.hb.size),h.own.on hb,h.ow⟩
theorem LdP.drew (h:LdP E sz R w l S wx):LdP E sz R w l S wx.drew:=h.on (XV _ _).drew
theorem LdP.start (w:QV):LdP E sz R w [] (QQ none 0 0) w:=⟨XV _ _,cw_.nil ..,λb h=>by cases h⟩
theorem LdP.startOn {w0:QV} (hb:XU w0.heap.size w0 w):LdP E sz R w0 [] (QQ none 0 0) w:=⟨hb,cw_.nil ..,λb h=>by cases h⟩
structure InP (E:TypeId) (sz:Nat) (R:α -> Array XZ->Prop) (w:QV) (l:List α) (S:XZ) (nx:List α) (v:XZ) (wx:QV):Prop where
 l:LdP E sz R w l S wx
 n:LdP E sz R w nx v wx
 ne:∀b,v.ownBlock=QJ b->S.ownBlock≠QJ b
theorem InP.start (h:LdP E sz R w l S wx):InP E sz R w l S [] (QQ none 0 0) wx:=⟨h,⟨h.hb,cw_.nil ..,λb h=>by cases h⟩,λb h=>by cases h⟩
theorem InP.on (h:InP E sz R w l S nx v wx) (hb:XU wx.heap.size wx w'):InP E sz R w l S nx v w':=⟨h.l.on hb,h.n.on hb,h.ne⟩
theorem InP.app {r:List α} (h:InP E sz R w l S nx v wx) (z:cw_ E sz R w' (nx++r) v') (x:wx.grownBy w' v.ownBlock) (f:v'.ownBlock=v.ownBlock\/v'.ownBlock=QJ wx.heap.size):InP E sz R w l S (nx++r) v' w':=by
 have ht:=Turn.of_grown x;have hb:XU w.heap.size w w':=np_ h.l.hb ht (λb hb=>h.n.ow b hb.symm);refine⟨⟨hb,h.l.own.turn ht (λb h1 h2=>h.ne b h2.symm h1),h.l.ow⟩,⟨hb,z,λb hb=>?_⟩,λb hb=>?_⟩
 ·rcases f with e | e
  ·rw[e]at hb;exact h.n.ow b hb
  ·rw[e]at hb;injection hb with hb;rw[<-hb];exact h.l.hb.size
 ·rcases f with e | e
  ·rw[e]at hb;exact h.ne b hb
  ·rw[e]at hb;injection hb with hb;intro h2;have:=h.l.own.lt h2;omega
theorem InP.done (h:InP E sz R w l S nx v wx):LdP E sz R w nx v wx:=h.n
end
section
variable {α : Type} {o:α -> α -> Int} {l:List α} {y:α} {k:Nat}
theorem En_ {x:α} (b:l[k]?=QJ x) (h:0<o x y):bi_ o y l (k+1)=bi_ o y l k:=by
 unfold bi_;rw[b];simp only;rw[if_pos h]
 cases k<;>rfl
theorem Eo_ {x:α} (b:l[k]?=QJ x) (h:¬0<o x y):bi_ o y l (k+1)=k+1:=by unfold bi_;rw[b];simp only;rw[if_neg h]
theorem Ep_:bi_ o y l 0=0:=by unfold bi_;rfl
theorem Hq_ (h:bi_ o y l l.length=0):gs_ o l y=l.take 0++([y]++l.drop 0):=by unfold gs_;simp only[h];rw[if_neg (by rintro⟨h,_⟩;omega)];rfl
theorem Hp_ {x:α} (e:l[k]?=QJ x) (h:bi_ o y l l.length=k+1) (h0:o x y≠0):gs_ o l y=l.take (k+1)++([y]++l.drop (k+1)):=by unfold gs_;simp only[h,Nat.add_sub_cancel];rw[if_neg (by rintro⟨_,f,b,h1⟩;rw[e]at b;injection b with b;subst b;exact h0 h1)];rfl
theorem Hr_ {x:α} (b:l[k]?=QJ x) (h:bi_ o y l l.length=k+1) (h0:o x y=0):gs_ o l y=l:=by unfold gs_;simp only[h,Nat.add_sub_cancel];rw[if_pos ⟨by omega,x,b,h0⟩]
end
theorem R_:fc_ 18 (λ(t:e_) c=>dm_ c t):=⟨λh=>h.size,fun {x c} h u r=>by
 obtain⟨_,ss,f,rfl⟩:=h;exact cf_ x ss (λq b=>by obtain⟨A,cp,e⟩:=f q b;exact⟨A,0,cp,e⟩) u r⟩
theorem SRd.imp {α : Type} {R R':bu_ α} {sz:Nat} {w:QV} {F F':Nat->Prop} {l:List α} {A:Option Addr} {n:Nat} (h:SRd sz R w F l A n) (r:∀b,F b->F' b) (z:∀x c,R w F x c->R' w F' x c):SRd sz R' w F' l A n:=
 ⟨h.1,λD=>by
  obtain⟨ad,e,C,B⟩:=h.2 D;refine⟨ad,e,r _ C,λi x I=>?_⟩;obtain⟨c,h1,h2,f⟩:=B i x I;exact⟨c,h1,h2,z x c f⟩⟩
theorem dm_.trR {c:Array XZ} {t:e_} (h:dm_ c t) (w:QV) (F:Nat->Prop):TrR w F t c:=by obtain⟨b,ss,r,rfl⟩:=h;refine⟨ss,rfl,λn f=>?_⟩;obtain⟨A,cap,e⟩:=r n f;rw[e];exact u3_ w F (b n).list A cap
theorem TrR.cellT {c:Array XZ} {t:e_} {w:QV} {F:Nat->Prop} (h:TrR w F t c) (b:yu_ t):dm_ c t:=by obtain⟨ss,rfl,f⟩:=h;refine⟨b,ss,λi hi=>?_,rfl⟩;obtain⟨A,cap,e,_,_⟩:=(f i hi).inv;injection e with e;have:=congrArg (λa:Array XZ=>a[5]?) e;rw[(b i).list]at this;exact⟨A,cap,by simpa [c_] using this⟩
theorem jm_ (W:QV):(sizeOf (Tryz.prog.elem 22)).run QW W = .ok 18 W:=by kernel_rfl
theorem vb_:Tryz.prog.underlying 22=QJ (.slice (Tryz.prog.elem 22)):=by kernel_rfl
end
section
open Go
end
section
open Go Go.RowKit Go.Maps
noncomputable def hn_ (L M:List e_):Bool:=by classical exact decide (L=M)
theorem ho_ {L M:List e_}:hn_ L M=true↔L=M:=by unfold hn_;simp
theorem tc_ {L M:List e_} (h:L≠M):hn_ L M=false:=by
 cases e:hn_ L M with
 | false=>rfl
 | true=>exact absurd (ho_.1 e) h
theorem Dk_ {L M:List e_} {n:Nat} (h1:L.length=n) (h2:M.length=n) (h:∀m,m<n->L[m]?=M[m]?):L=M:=List.ext_getElem? λm=>by
 by_cases b:m<n
 ·exact h m b
 ·rw[List.getElem?_eq_none (by omega),List.getElem?_eq_none (by omega)]
theorem v6_ {F G:Nat->Prop} {w:QV} {L M:List e_} {A B:Option Addr} {n m ca cb:Nat} (h1:SRd 18 TrR w F L A n) (h2:SRd 18 TrR w G M B m) (hF:∀b,F b->b<w.heap.size) (hG:∀b,G b->b<w.heap.size) (hn:n<=1000000000)
    (a9:∀t,t∈L->∀i,Z_ (t.get i).list<=999999999):Calls QW 14 #[QQ A n ca,QQ B m cb] w (p_ (hn_ L M) w):=by
 have H1:=q_ h1;have H2:=q_ h2;have HF:=q_ hF;have HG:=q_ hG;have ad:=q_ a9;have L1:=q_ h1.1;have L2:=q_ h2.1;have HN:=q_ hn;clear h1 h2 hF hG a9;by_cases a6:n=m
 ·subst a6;obtain⟨r,Hr⟩:=a_ (hn_ L M);rw[Hr.o];go_enter Tryz.func14,Tryz.ntmps14
  go_wp2_with fail;go_loopw [5] (λs5 wx=>∃i:Nat,i<=n/\s5 = QK QU (i:Nat)/\Q_ (XU w.heap.size w wx/\∀m,m<i->L[m]?=M[m]?)) (λs5 _=>n-(intOf s5).toNat)
  case atStart=>exact⟨0,by omega,rfl,q_ ⟨XV _ _,λm hm=>absurd hm (by omega)⟩⟩
  case round=>
   obtain⟨i,hi,rfl,X⟩:=hrel;by_cases O:i<n
   ·have a1:(0:Int)<=i:=by omega
    have a2:(i:Int)<n:=by omega
    have w1:IntKind.i64.wrap ((i:Int)+1)=(i:Int)+1:=IntWalk.i64_in _ (by omega);obtain⟨t,ht⟩:∃t,L[i]?=QJ t:=⟨_,XQ (by rw[<-L1.o];exact O)⟩;obtain⟨u,hu⟩:∃u,M[i]?=QJ u:=⟨_,XQ (by rw[<-L2.o];exact O)⟩;obtain⟨C,s1,rfl,a4,U,a7⟩:=TrR.cells H1.o ht;obtain⟨D,s2,rfl,a5,V,a8⟩:=TrR.cells H2.o hu;have HT:=q_ ht;have HU:=q_ hu;have z:=λ(W:QV) (hb:XU w.heap.size w W)=>Gx_ (a:=t) (b:=u) (sa:=s1) (sb:=s2) (F:=F) (G:=G) (λq _=>ad.o t (YQ ht) q) W (λg h=>XY (HF.o g h) hb.size) (λg h=>XY (HG.o g h) hb.size) (λq Y=>(a7 q Y).under hb HF.o) (λq Y=>(a8 q Y).under hb HG.o);unfold p_ at z;obtain⟨ct,a0⟩:=be_ t s1;obtain⟨cu,a3⟩:=be_ u s2;rw[a0.o]at U z;rw[a3.o]at V z;obtain⟨b,Hb⟩:=a_ (tb_ t u);rw[Hb.o]at z;have aa:=q_ z;have ab:=q_ (λ(W:QV) (hb:XU w.heap.size w W) (j:Nat) (hj:j<ct.size)=>(hb.cell (p:=(C.add (i*18)).add j) (by rw[N_,N_];exact HF.o _ a4)).trans (U j hj));have ac:=q_ (λ(W:QV) (hb:XU w.heap.size w W) (j:Nat) (hj:j<cu.size)=>(hb.cell (p:=(D.add (i*18)).add j) (by rw[N_,N_];exact HG.o _ a5)).trans (V j hj));have I1:=q_ (ey_.trans (congrArg QJ a0.size.symm));have I2:=q_ (ey_.trans (congrArg QJ a3.size.symm));have Z:=q_ O;clear ht hu a4 a5 U V a7 a8 z;go_upto_region 6 with fail;refine wp_region_held_drew (S:=λW'=>XU w.heap.size w W') (by kernel_rfl) X.o.1.drew λf=>?_;refine P_.o ?_;refine C_ 0 17 (QQ (QJ C) n ca) f λf=>?_;refine C_ 1 18 (QK QU (i:Nat)) f λf=>?_;refine tlW 2 19 (YX (QJ (C.add (i*18)))) f (λw I=>?_) λf=>?_
    ·exact n_ (g8_ C n ca i Z.o w)
    refine tlW 3 20 (.agg ct) f (λw I=>?_) λf=>?_
    ·have p:=S_ w (C.add (i*18)) 41 ct _ (ab.o _ I) Tryz.underlying41 rfl I1.o;exact n_ (by simp only[Instr.loadAt,Instr.sureAddr,Sem.run_bind];exact p)
    refine C_ 4 21 (QQ (QJ D) n cb) f λf=>?_;refine C_ 5 22 (QK QU (i:Nat)) f λf=>?_;refine tlW 6 23 (YX (QJ (D.add (i*18)))) f (λw I=>?_) λf=>?_
    ·exact n_ (g8_ D n cb i Z.o w)
    refine tlW 7 24 (.agg cu) f (λw I=>?_) λf=>?_
    ·have p:=S_ w (D.add (i*18)) 41 cu _ (ac.o _ I) Tryz.underlying41 rfl I2.o;exact n_ (by simp only[Instr.loadAt,Instr.sureAddr,Sem.run_bind];exact p)
    refine tlC 8 λK hK=>?_;go_simp;refine (aa.o _ f).mono ?_;rintro e x ⟨rfl,hb⟩;have HX:=q_ (f.trans (hb.mono f.size));clear hb;dsimp only;refine tlB hK HX.o λf=>?_;clear hK K
    cases b with
    | false=>
     refine C_ 9 26 (XK true) f λf=>?_;refine⟨wpAnyH_done (by kernel_rfl) ?_ _⟩
     have N:=q_ (show hn_ L M=false from tc_ λe=>by
      have h1:=HT.o;rw[e,HU.o]at h1;injection h1 with h1;have h2:=Hb.o;rw[h1,Am_]at h2
      cases h2)
     have J:=q_ f;clear f;go_wp2_with fail;go_ret;exact⟨congrArg (λb=>Ending.returned (Value.bool b)) (N.o.symm.trans Hr.o),J.o⟩
    | true=>
     refine C_ 9 26 (XK false) f λf=>?_;refine⟨wpAnyH_done (by kernel_rfl) ?_ _⟩;have J:=q_ f;clear f;go_wp2_with fail;go_roundw
     case rel=>exact⟨i+1,by omega,by go_num,q_ ⟨J.o,λm hm=>by
      by_cases e:m=i
      ·subst e;rw[HT.o,HU.o,xz_.1 Hb.o]
      ·exact X.o.2 m (by omega)⟩⟩
     case measure=>simp[intOf];omega
   ·have a2:¬(i:Int)<n:=by omega
    have N:=q_ (show hn_ L M=true from ho_.2 (Dk_ (n:=n) L1.o.symm L2.o.symm λq Y=>X.o.2 q (by omega)));have J:=q_ X.o.1;go_wp2_with fail;go_ret;exact⟨congrArg (λb=>Ending.returned (Value.bool b)) (N.o.symm.trans Hr.o),J.o⟩
 ·have N:=q_ (show hn_ L M=false from tc_ λe=>a6 (by rw[L1.o,L2.o,e]));have ae:¬(n:Int)=m:=by omega
  rw[N.o];go_enter Tryz.func14,Tryz.ntmps14
  go_wp2_with fail;go_ret;exact⟨rfl,XV _ _⟩
theorem xn_ {a b:e_} {ca cb:Array XZ} (ha:dm_ ca a) (hb:dm_ cb b) (w:QV) :
    Calls QW 56 #[.agg ca,.agg cb] w (rl_ (ae_ 0) a b w):=by
 obtain⟨I,sa,h1,ea⟩:=ha;obtain⟨kb,sb,h2,eb⟩:=hb;have a0:vh_ ca a sa:=⟨ea.symm⟩;have a1:vh_ cb b sb:=⟨eb.symm⟩;clear ea eb;obtain⟨z,Hz⟩:=a_ w.heap.size;obtain⟨w2,B⟩:=a_ ((w.alloc (XX ca 41)).alloc (XX cb 41));have a2:=q_ (show XU w.heap.size w w2 from by rw[<-B.o];exact B_ w _ _);have f:=q_ (show w2.heap[z]?=QJ (XX ca 41 (0,0)) from by rw[<-B.o,<-Hz.o];exact heap_alloc2_old w _ _);have h:=q_ (show w2.heap[z+1]?=QJ (XX cb 41 (0,0)) from by rw[<-B.o,<-Hz.o];exact heap_alloc2_new w _ _);have A:=q_ (show ∀W,XU w2.heap.size w2 W->XU w.heap.size w W from λW hb=>a2.o.trans (hb.mono a2.o.size));obtain⟨u0,J⟩:=v_ (a.get 0) (sa 0);obtain⟨v0,N⟩:=v_ (b.get 0) (sb 0);have ac:=q_ (ad_.trans (congrArg QJ J.size.symm));have af:=q_ (ad_.trans (congrArg QJ N.size.symm));have ai:=q_ (λ(W:QV) (hb:XU w2.heap.size w2 W) i (hi:i<u0.size)=>(show W.cell? ((⟨z,0,QY⟩:Addr).add i)=u0[i]? from by rw[Addr.add_mid,cell_of_row W z (0+i) ca _ _ ((hb.block z (b_ f.o)).trans f.o),<-J.o,<-a0.o];exact u_ a sa 0 (by omega) i (by rwa [J.size]at hi)));have am:=q_ (λ(W:QV) (hb:XU w2.heap.size w2 W) i (hi:i<v0.size)=>(show W.cell? ((⟨z+1,0,QY⟩:Addr).add i)=v0[i]? from by rw[Addr.add_mid,cell_of_row W (z+1) (0+i) cb _ _ ((hb.block (z+1) (b_ h.o)).trans h.o),<-N.o,<-a1.o];exact u_ b sb 0 (by omega) i (by rwa [N.size]at hi)));obtain⟨t0,a3⟩:=a_ (F_ (a.get 0) (b.get 0));have V:=λ(W:QV)=>hk_ (a.get 0) (b.get 0) (sa 0) (sb 0) W (I 0).k5 (I 0).fit (kb 0).fit;unfold bh_ at V;rw[J.o,N.o,a3.o]at V;have a8:=q_ V;clear V;obtain⟨u1,L⟩:=v_ (a.get 1) (sa 1);obtain⟨v1,O⟩:=v_ (b.get 1) (sb 1);have ad:=q_ (ad_.trans (congrArg QJ L.size.symm));have ag:=q_ (ad_.trans (congrArg QJ O.size.symm));have aj:=q_ (λ(W:QV) (hb:XU w2.heap.size w2 W) i (hi:i<u1.size)=>(show W.cell? ((⟨z,6,QY⟩:Addr).add i)=u1[i]? from by rw[Addr.add_mid,cell_of_row W z (6+i) ca _ _ ((hb.block z (b_ f.o)).trans f.o),<-L.o,<-a0.o];exact u_ a sa 1 (by omega) i (by rwa [L.size]at hi)));have ao:=q_ (λ(W:QV) (hb:XU w2.heap.size w2 W) i (hi:i<v1.size)=>(show W.cell? ((⟨z+1,6,QY⟩:Addr).add i)=v1[i]? from by rw[Addr.add_mid,cell_of_row W (z+1) (6+i) cb _ _ ((hb.block (z+1) (b_ h.o)).trans h.o),<-O.o,<-a1.o];exact u_ b sb 1 (by omega) i (by rwa [O.size]at hi)));obtain⟨t1,a4⟩:=a_ (F_ (a.get 1) (b.get 1));have X:=λ(W:QV)=>hk_ (a.get 1) (b.get 1) (sa 1) (sb 1) W (I 1).k5 (I 1).fit (kb 1).fit;unfold bh_ at X;rw[L.o,O.o,a4.o]at X;have a9:=q_ X;clear X;obtain⟨u2,M⟩:=v_ (a.get 2) (sa 2);obtain⟨v2,U⟩:=v_ (b.get 2) (sb 2);have ae:=q_ (ad_.trans (congrArg QJ M.size.symm));have ah:=q_ (ad_.trans (congrArg QJ U.size.symm));have ak:=q_ (λ(W:QV) (hb:XU w2.heap.size w2 W) i (hi:i<u2.size)=>(show W.cell? ((⟨z,12,QY⟩:Addr).add i)=u2[i]? from by rw[Addr.add_mid,cell_of_row W z (12+i) ca _ _ ((hb.block z (b_ f.o)).trans f.o),<-M.o,<-a0.o];exact u_ a sa 2 (by omega) i (by rwa [M.size]at hi)));have ap:=q_ (λ(W:QV) (hb:XU w2.heap.size w2 W) i (hi:i<v2.size)=>(show W.cell? ((⟨z+1,12,QY⟩:Addr).add i)=v2[i]? from by rw[Addr.add_mid,cell_of_row W (z+1) (12+i) cb _ _ ((hb.block (z+1) (b_ h.o)).trans h.o),<-U.o,<-a1.o];exact u_ b sb 2 (by omega) i (by rwa [U.size]at hi)));obtain⟨t2,a5⟩:=a_ (F_ (a.get 2) (b.get 2));have Y:=λ(W:QV)=>hk_ (a.get 2) (b.get 2) (sa 2) (sb 2) W (I 2).k5 (I 2).fit (kb 2).fit;unfold bh_ at Y;rw[M.o,U.o,a5.o]at Y;have aa:=q_ Y;clear Y;obtain⟨r,Hr⟩:=a_ (s_ (ae_ 0) a b);have HR:=q_ (show r=ap_ t0 (ap_ t1 t2) from by rw[<-Hr.o,<-a3.o,<-a4.o,<-a5.o];rfl);unfold rl_;rw[Hr.o];clear h1 h2 I kb;go_enter Tryz.func56,Tryz.ntmps56
 go_upto_region 1 with fail;rw[B.o,Hz.o];clear B
 go_wp2_with (first
  | ((with_reducible refine d_ (some 7) ?_);refine E_ (by rfl) 39 _ rfl rfl u0 _ (ai.o _ (XV _ _)) YZ rfl ac.o ?_)
  | ((with_reducible refine d_ (some 9) ?_);refine E_ (by rfl) 39 _ rfl rfl v0 _ (am.o _ (XV _ _)) YZ rfl af.o ?_))
 refine (a8.o _).mono ?_;rintro e x0 ⟨rfl,hb⟩;have C:=q_ (show XU w2.heap.size w2 x0 from hb);clear hb;by_cases a6:t0=0
 ·subst a6
  go_wp2_with (first
   | ((with_reducible refine d_ (some 14) ?_);refine E_ (by rfl) 39 _ rfl rfl u1 _ (aj.o _ C.o) YZ rfl ad.o ?_)
   | ((with_reducible refine d_ (some 16) ?_);refine E_ (by rfl) 39 _ rfl rfl v1 _ (ao.o _ C.o) YZ rfl ag.o ?_))
  refine (a9.o _).mono ?_;rintro e x1 ⟨rfl,hb⟩;have D:=q_ (show XU w2.heap.size w2 x1 from C.o.trans (hb.mono C.o.size));clear hb;by_cases a7:t1=0
  ·subst a7
   go_wp2_with (first
    | ((with_reducible refine d_ (some 21) ?_);refine E_ (by rfl) 39 _ rfl rfl u2 _ (ak.o _ D.o) YZ rfl ae.o ?_)
    | ((with_reducible refine d_ (some 23) ?_);refine E_ (by rfl) 39 _ rfl rfl v2 _ (ap.o _ D.o) YZ rfl ah.o ?_))
   refine (aa.o _).mono ?_;rintro e x2 ⟨rfl,hb⟩;have ab:=q_ (show XU w2.heap.size w2 x2 from D.o.trans (hb.mono D.o.size));clear hb;have Z:=q_ (show t2=r from by rw[HR.o];rfl);go_wp2_with fail;go_ret;exact⟨congrArg (λx=>Ending.returned (Value.int QU x)) Z.o,A.o _ ab.o⟩
  ·have Z:=q_ (show t1=r from by rw[HR.o,show ap_ (0:Int) (ap_ t1 t2)=ap_ t1 t2 from rfl];unfold ap_;rw[if_neg a7]);go_wp2_with fail;go_ret;exact⟨congrArg (λx=>Ending.returned (Value.int QU x)) Z.o,A.o _ D.o⟩
 ·have Z:=q_ (show t0=r from by rw[HR.o];unfold ap_;rw[if_neg a6]);go_wp2_with fail;go_ret;exact⟨congrArg (λx=>Ending.returned (Value.int QU x)) Z.o,A.o _ C.o⟩
theorem wr_ {t:e_} (h:cn_ t) (b:∀n,bt_ (t.get n)):yu_ t:=λn=>⟨ec_ (h.get n),b n,by have:=(h.get n).2.1;omega⟩
abbrev CTx:e_->Array XZ->Prop:=λt c=>dm_ c t
theorem No_ {w:QV} {F:Nat->Prop} {T:List e_} {v:XZ} (h:D_ 41 18 TrS w F T v):∃A cap,v = QQ A T.length cap/\SRd 18 (ofP CTx) w F T A T.length:=by obtain⟨A,cap,e,_,r⟩:=h.rd TrS.good;exact⟨A,cap,e,r.imp (λ_ h=>h) λt c ⟨h1,h2,ss,b,f⟩=>⟨wr_ h1 h2,ss,b,f⟩⟩
theorem Hn_ {α : Type} (o:α -> α -> Int) (l:List α) (v:α):(gs_ o l v).length<=l.length+1:=by
 unfold gs_;simp only;split
 ·omega
 ·rw[List.length_append,List.length_cons,List.length_take,List.length_drop];omega
theorem gu_ {α : Type} (o:α -> α -> Int) (l:List α):(au_ o l).length<=l.length:=by
 unfold au_;suffices h:∀(l a:List α),(l.foldl (gs_ o) a).length<=a.length+l.length by have:=h l [];simpa using this
 intro l;induction l with
 | nil=>intro a;simp
 | cons x r b=>
  intro a;rw[List.foldl_cons];have h1:=b (gs_ o a x);have h2:=Hn_ o a x;rw[List.length_cons];omega
def WkS (K:List e_) (w:Way) (c:fv_) (wt:e_) (G:List e_) (b:Bool) (st k:Nat):Prop:=
 (K.length=0/\c=⟨[],false⟩/\b=true/\G=[]/\st=0/\k=500)\/(∃m d,b=true/\WkA K w m d c wt G/\st<=Op_ m d/\k+Op_ m d=500)\/(∃m d,b=false/\WkB K w m d c wt G/\st<=Oq_ m d/\k+Oq_ m d=500)
section
variable {T K:List e_} {w:Way} {m d st k:Nat} {c:fv_} {wt:e_} {G:List e_}
theorem WkB.keyV (b:ht_ T K w) (r:∀t,t∈T->∀n,bt_ (t.get n)) (h:WkB K w m d c wt G):o6_ (wt.get d):=by have x:=h.len;obtain⟨s,f⟩:∃s,K[m]?=QJ s:=⟨_,XQ x.2.2⟩;rw[h.2.1 s f d (by omega)];have e:=(b.mem s).1 (YQ f);exact ow_ (b.scal s e) (r s e) _
theorem WkS.start (wt:e_) (K:List e_) (w:Way):WkS K w ⟨[],false⟩ wt [] true 0 500:=by
 rcases Nat.eq_zero_or_pos K.length with h | h
 ·exact .inl ⟨h,rfl,rfl,rfl,rfl,rfl⟩
 ·exact .inr (.inl ⟨0,0,rfl,WkA.start h wt,Nat.zero_le _,rfl⟩)
end
structure WkM (F:Nat->Prop) (w0:QV) (q zw j:Nat) (T:List e_) (c:fv_) (wt:e_) (sw:Nat->XZ) (G:List e_) (S:XZ) (wx:QV):Prop where
 b:XU w0.heap.size w0 wx
 cur:h2_ F wx q j T c
 way:wx.heap[zw]?=QJ (XX (K_ wt sw) 98 (0,0))
 own:D_ 41 18 TrS wx (λb=>zw<b/\b<wx.heap.size) G S
 sl:∀i,i<3->∃A cap,sw i = QQ A 0 cap
 q0:w0.heap.size<=q
 qz:q<zw
 fz:∀b,F b->b<w0.heap.size
section
variable {F:Nat->Prop} {w0 wx w':QV} {q zw j:Nat} {T:List e_} {c c':fv_} {wt:e_} {sw:Nat->XZ} {G:List e_} {S:XZ}
theorem WkM.on (h:WkM F w0 q zw j T c wt sw G S wx) (hb:XU wx.heap.size wx w'):WkM F w0 q zw j T c wt sw G S w':=
 ⟨h.b.trans (hb.mono h.b.size),h.cur.on hb,(hb.block zw (b_ h.way)).trans h.way,(h.own.turn TrS.good (Turn.of_below hb) (λb hb=>hb.2) (λb hb=>λe=>by have e:wx.heap.size<=b:=e;have:=hb.2;omega)).mono TrS.good λb h1=>⟨h1.1,XY h1.2 hb.size⟩,h.sl,h.q0,h.qz,h.fz⟩
theorem WkM.drew (h:WkM F w0 q zw j T c wt sw G S wx):WkM F w0 q zw j T c wt sw G S wx.drew:=h.on (XV _ _).drew
theorem WkM.more {g cap n:Nat} {t:e_} (h:WkM F w0 q zw j T c wt sw G S wx) (r:wx.grownBy w' S.ownBlock) (A:S.ownBlock=QJ g\/wx.heap.size<=g) (x:g<w'.heap.size)
    (B:D_ 41 18 TrS w' (λb=>(zw<b/\b<wx.heap.size)\/b=g) (G++[t]) (QQ (QJ ⟨g,0,QY⟩) n cap)):WkM F w0 q zw j T c wt sw (G++[t]) (QQ (QJ ⟨g,0,QY⟩) n cap) w':=by
 have f:∀b,S.ownBlock=QJ b->zw<b/\b<wx.heap.size:=λb hb=>by
  obtain⟨_,_,_,z,_⟩:=h.own;exact z b hb
 have ht:=Turn.of_grown r;refine⟨i_ h.b ht (λb hb=>by have:=f b hb.symm;have:=h.q0;have:=h.qz;omega),h.cur.turn ht (λb hb e=>by have:=f b e.symm;have:=h.fz b hb;have:=h.q0;have:=h.qz;omega) (λe=>by have:=f q e.symm;have:=h.qz;omega),ht.heap h.way (λe=>by have:=f zw e.symm;omega),B.mono TrS.good λb hb=>?_,h.sl,h.q0,h.qz,h.fz⟩;rcases hb with hb | rfl
 ·exact⟨hb.1,XY hb.2 r.size⟩
 ·refine⟨?_,x⟩;rcases A with h1 | h1
  ·exact (f _ h1).1
  ·have:=b_ h.way;omega
end
theorem N3_ {op:Oper} {a:Act} {K:Act->QV->Prop} {Q:Exit->Act->QV->Prop} {w:QV} (x:Operand) (e:op.op = .buildSlice 22 1 #[(0,x)]) {c:Array XZ} (f:a.eval x = .agg c) (b:c.size=18) (h:K (a.put op.dst (.slice (QJ ⟨w.heap.size,0,QY⟩) 1 1)) (w.alloc (.cells c 41))):op.wp QW a w K Q:=by unfold Oper.wp execOp;simp only[e,List.map_toArray,List.map_cons,List.map_nil,f,Sem.run_bind,Sem.run_pure,i5_ c b w,Result.andThen_ok];exact h
theorem xp_ (t:e_) (ok:OkT t) (F:Nat->Prop) (ss:Nat->XZ) (w:QV) (N:∀g,F g->g<w.heap.size) (hv:∀n,n<3->VRd w F (t.get n) (.agg (c_ (t.get n) (ss n)))) :
    Calls QW 16 #[.agg (K_ t ss)] w (p_ (cx_ t) w):=by
 obtain⟨c,M⟩:=be_ t ss;rw[M.o];obtain⟨z,Hz⟩:=a_ w.heap.size;obtain⟨w2,U⟩:=a_ (w.alloc (XX c 41));have a8:=q_ (show XU w.heap.size w w2 from by rw[<-U.o];exact (XV _ _).alloc (XJ _) _);have D:=q_ (show w2.heap[z]?=QJ (XX c 41 (0,0)) from by rw[<-U.o,<-Hz.o];exact heap_alloc_new w _);have f:=q_ (show ∀W,XU w2.heap.size w2 W->XU w.heap.size w W from λW hb=>a8.o.trans (hb.mono a8.o.size));obtain⟨u0,V⟩:=v_ (t.get 0) (ss 0);have ac:=q_ (ad_.trans (congrArg QJ V.size.symm));have ai:=q_ (λ(W:QV) (hb:XU w2.heap.size w2 W) i (hi:i<u0.size)=>(show W.cell? ((⟨z,0,QY⟩:Addr).add i)=u0[i]? from by rw[Addr.add_mid,cell_of_row W z (0+i) c _ _ ((hb.block z (b_ D.o)).trans D.o),<-V.o,<-M.o];exact u_ t ss 0 (by omega) i (by rwa [V.size]at hi)));have Z:=λ(W:QV) (hb:XU w.heap.size w W)=>hj_ (t.get 0) (YK (ok.get 0).size (by decide)) F _ W (λg h=>XY (N g h) hb.size) ((hv 0 (by omega)).under hb N);unfold p_ at Z;obtain⟨m0,a5⟩:=a_ (z_ (t.get 0) 0);rw[V.o,a5.o]at Z;have a9:=q_ Z;clear Z;obtain⟨O,a2⟩:=a_ (t.get 0).kind;have af:=q_ (λ(W:QV) (hb:XU w2.heap.size w2 W)=>(show W.cell? ⟨z,0,QY⟩=QJ (QK QU O) from by rw[cell_of_row W z 0 c _ _ ((hb.block z (b_ D.o)).trans D.o),<-M.o,<-a2.o];rfl));obtain⟨u1,X⟩:=v_ (t.get 1) (ss 1);have ad:=q_ (ad_.trans (congrArg QJ X.size.symm));have aj:=q_ (λ(W:QV) (hb:XU w2.heap.size w2 W) i (hi:i<u1.size)=>(show W.cell? ((⟨z,6,QY⟩:Addr).add i)=u1[i]? from by rw[Addr.add_mid,cell_of_row W z (6+i) c _ _ ((hb.block z (b_ D.o)).trans D.o),<-X.o,<-M.o];exact u_ t ss 1 (by omega) i (by rwa [X.size]at hi)));have a0:=λ(W:QV) (hb:XU w.heap.size w W)=>hj_ (t.get 1) (YK (ok.get 1).size (by decide)) F _ W (λg h=>XY (N g h) hb.size) ((hv 1 (by omega)).under hb N);unfold p_ at a0;obtain⟨m1,a6⟩:=a_ (z_ (t.get 1) 0);rw[X.o,a6.o]at a0;have aa:=q_ a0;clear a0;obtain⟨k1,a3⟩:=a_ (t.get 1).kind;have ag:=q_ (λ(W:QV) (hb:XU w2.heap.size w2 W)=>(show W.cell? ⟨z,6,QY⟩=QJ (QK QU k1) from by rw[cell_of_row W z 6 c _ _ ((hb.block z (b_ D.o)).trans D.o),<-M.o,<-a3.o];rfl));obtain⟨u2,Y⟩:=v_ (t.get 2) (ss 2);have ae:=q_ (ad_.trans (congrArg QJ Y.size.symm));have ak:=q_ (λ(W:QV) (hb:XU w2.heap.size w2 W) i (hi:i<u2.size)=>(show W.cell? ((⟨z,12,QY⟩:Addr).add i)=u2[i]? from by rw[Addr.add_mid,cell_of_row W z (12+i) c _ _ ((hb.block z (b_ D.o)).trans D.o),<-Y.o,<-M.o];exact u_ t ss 2 (by omega) i (by rwa [Y.size]at hi)));have a1:=λ(W:QV) (hb:XU w.heap.size w W)=>hj_ (t.get 2) (YK (ok.get 2).size (by decide)) F _ W (λg h=>XY (N g h) hb.size) ((hv 2 (by omega)).under hb N);unfold p_ at a1;obtain⟨m2,a7⟩:=a_ (z_ (t.get 2) 0);rw[Y.o,a7.o]at a1;have ab:=q_ a1;clear a1;obtain⟨x,a4⟩:=a_ (t.get 2).kind;have ah:=q_ (λ(W:QV) (hb:XU w2.heap.size w2 W)=>(show W.cell? ⟨z,12,QY⟩=QJ (QK QU x) from by rw[cell_of_row W z 12 c _ _ ((hb.block z (b_ D.o)).trans D.o),<-M.o,<-a4.o];rfl));have C:=q_ (show cx_ t=(m0&&(m1&&(m2&&(decide (k1=8)&&(decide (O=8\/O=9)&&decide (x=8\/x=9\/x=10\/x=4\/x=1\/x=2\/x=3)))))) from by rw[<-a5.o,<-a6.o,<-a7.o,<-a2.o,<-a3.o,<-a4.o];rfl);obtain⟨r,Hr⟩:=a_ (cx_ t);rw[Hr.o]at C;unfold p_;rw[Hr.o];clear hv N ok a2 a3 a4 a5 a6 a7 Hr;go_enter Tryz.func16,Tryz.ntmps16
 go_upto_region 1 with fail;rw[U.o,Hz.o];clear U;go_wp2_with ((with_reducible refine d_ (some 4) ?_);refine E_ (by rfl) 39 _ rfl rfl u0 _ (ai.o _ (XV _ _)) YZ rfl ac.o ?_)
 refine (a9.o _ (f.o _ (XV _ _))).mono ?_;rintro e x0 ⟨rfl,hb⟩;have J:=q_ (show XU w2.heap.size w2 x0 from hb);clear hb
 cases m0 with
 | false=>
  go_wp2_with fail;go_ret;exact⟨congrArg (λb=>Ending.returned (Value.bool b)) (show false=r from by rw[C.o];simp),f.o _ J.o⟩
 | true=>
  go_wp2_with ((with_reducible refine d_ (some 9) ?_);refine E_ (by rfl) 39 _ rfl rfl u1 _ (aj.o _ J.o) YZ rfl ad.o ?_)
  refine (aa.o _ (f.o _ J.o)).mono ?_;rintro e x1 ⟨rfl,hb⟩;have L:=q_ (show XU w2.heap.size w2 x1 from J.o.trans (hb.mono J.o.size));clear hb
  cases m1 with
  | false=>
   go_wp2_with fail;go_ret;exact⟨congrArg (λb=>Ending.returned (Value.bool b)) (show false=r from by rw[C.o];simp),f.o _ L.o⟩
  | true=>
   go_wp2_with ((with_reducible refine d_ (some 15) ?_);refine E_ (by rfl) 39 _ rfl rfl u2 _ (ak.o _ L.o) YZ rfl ae.o ?_)
   refine (ab.o _ (f.o _ L.o)).mono ?_;rintro e x2 ⟨rfl,hb⟩;have A:=q_ (show XU w2.heap.size w2 x2 from L.o.trans (hb.mono L.o.size));clear hb
   cases m2 with
   | false=>
    go_wp2_with fail;go_ret;exact⟨congrArg (λb=>Ending.returned (Value.bool b)) (show false=r from by rw[C.o];simp),f.o _ A.o⟩
   | true=>
    have q0:=af.o x2 A.o;have q1:=ag.o x2 A.o;have q2:=ah.o x2 A.o;by_cases B:x=8\/x=9\/x=10\/x=4\/x=1\/x=2\/x=3
    ·have HK:=q_ B;by_cases h1:k1=8
     ·have H1:=q_ h1;by_cases h0:O=8
      ·have I:=q_ (show true=r from by rw[C.o,decide_eq_true H1.o,decide_eq_true (.inl h0),decide_eq_true HK.o];rfl);rcases B with rfl | rfl | rfl | rfl | rfl | rfl | rfl
       all_goals
        subst h0;subst h1;go_wp2_with fail;go_ret;exact⟨congrArg (λb=>Ending.returned (Value.bool b)) I.o,f.o _ A.o⟩
      ·by_cases h9:O=9
       ·have I:=q_ (show true=r from by rw[C.o,decide_eq_true H1.o,decide_eq_true (.inr h9),decide_eq_true HK.o];rfl);rcases B with rfl | rfl | rfl | rfl | rfl | rfl | rfl
        all_goals
         subst h9;subst h1;go_wp2_with fail;go_ret;exact⟨congrArg (λb=>Ending.returned (Value.bool b)) I.o,f.o _ A.o⟩
       ·have I:=q_ (show false=r from by rw[C.o,decide_eq_true H1.o,decide_eq_false (by rintro (h | h);exact h0 h;exact h9 h)];rfl);rcases B with rfl | rfl | rfl | rfl | rfl | rfl | rfl
        all_goals
         subst h1;go_wp2_with fail;go_ret;exact⟨congrArg (λb=>Ending.returned (Value.bool b)) I.o,f.o _ A.o⟩
     ·have I:=q_ (show false=r from by rw[C.o,decide_eq_false h1];rfl);have am:(k1==(8:Int))=false:=by simpa using h1
      by_cases h0:O=8
      ·rcases B with rfl | rfl | rfl | rfl | rfl | rfl | rfl
       all_goals
        subst h0;go_wp2_with fail;go_ret;exact⟨congrArg (λb=>Ending.returned (Value.bool b)) I.o,f.o _ A.o⟩
      ·by_cases h9:O=9
       ·rcases B with rfl | rfl | rfl | rfl | rfl | rfl | rfl
        all_goals
         subst h9;go_wp2_with fail;go_ret;exact⟨congrArg (λb=>Ending.returned (Value.bool b)) I.o,f.o _ A.o⟩
       ·rcases B with rfl | rfl | rfl | rfl | rfl | rfl | rfl
        all_goals
         go_wp2_with fail;go_ret;exact⟨congrArg (λb=>Ending.returned (Value.bool b)) I.o,f.o _ A.o⟩
    ·have I:=q_ (show false=r from by rw[C.o,decide_eq_false B,Bool.and_false,Bool.and_false];rfl);have g1:¬x=8:=λh=>B (.inl h);have g2:¬x=9:=λh=>B (.inr (.inl h));have g3:¬x=10:=λh=>B (.inr (.inr (.inl h)));have g4:¬x=4:=λh=>B (.inr (.inr (.inr (.inl h))));have g5:¬x=1:=λh=>B (.inr (.inr (.inr (.inr (.inl h)))));have g6:¬x=2:=λh=>B (.inr (.inr (.inr (.inr (.inr (.inl h))))));have g7:¬x=3:=λh=>B (.inr (.inr (.inr (.inr (.inr (.inr h))))));clear B;go_wp2_with fail;go_ret;exact⟨congrArg (λb=>Ending.returned (Value.bool b)) I.o,f.o _ A.o⟩
theorem ki_ (v:g_) (f:Z_ v.list<=100000000) {F:Nat->Prop} {u:XZ} (w:QV) (b:∀g,F g->g<w.heap.size) (h:VRd w F v u):Calls QW 44 #[u] w (kx_ v w):=by obtain⟨A,cap,rfl,_,e⟩:=h.inv;exact si_ v A cap w b e λw' h1 h2=>Ge_ (Z_ v.list+1) v.list (by omega) f F A _ cap w' h2 h1
theorem m2_ {v:g_} {s:XZ} {w:QV} {F:Nat->Prop} (h:gb_ w F v.list s):VRd w F v (.agg (c_ v s)):=(hy_.of_list h).rd
theorem Ju_ {op:Oper} {a:Act} {K:Act->QV->Prop} {Q:Exit->Act->QV->Prop} (s x:Operand) (ho:op.op = .call { callee:=.builtin .append,args:=#[s,x],argTypes:=#[22,22] })
    {wr:QV} {F G:Nat->Prop} {L:List e_} {S:XZ} {t:e_} {c:Array XZ} {n:Nat} (hS:a.eval s=S) (z:D_ 41 18 TrR wr F L S) (hL:L.length=n) (hx:a.eval x = QQ (QJ ⟨wr.heap.size,0,QY⟩) 1 1) (C:TrR wr G t c) (D:∀u∈c.toList,u.oneCell'=true) (a0:n<=1000000000) (Y:∀b,F b->b<wr.heap.size) (Z:∀b,G b->b<wr.heap.size) (B:∀b,G b->S.ownBlock≠QJ b)
    (h:∀g cap w',D_ 41 18 TrR w' (λb=>F b\/G b\/b=g) (L++[t]) (QQ (QJ ⟨g,0,QY⟩) (n+1) cap)->wr.grownBy w' S.ownBlock->(S.ownBlock=QJ g\/wr.heap.size<=g)->g<w'.heap.size->K (a.put op.dst (QQ (QJ ⟨g,0,QY⟩) (n+1) cap)) w') :
    op.wp QW a (wr.alloc (XX c 41)) K Q:=by
 subst hL;obtain⟨i0,hi,M,N,O⟩:=info_parts ov_;obtain⟨cs,f,X,A,hr⟩:=z;have r:c.size=18:=by obtain⟨ss,e,_⟩:=C;rw[e];rfl
 refine wp_append_lies _ s x _ ho 0 41 i0 _ 18 240 Tryz.underlying22 hi M N O rfl (by decide) S L.length (T_ cs L.length) hS (f.alloc _) ⟨wr.heap.size,0,QY⟩ 1 1 c.toList hx (by rw[Array.length_toList,r]) (World.news_of_block (heap_alloc_new wr _)) D (by omega) (by unfold maxLen;omega) (by omega) (Nat.zero_le _) (wr.heap.size+1) (by simp) λg cap w' h1 h2 V W=>?_;have I:=az_ h2;have J:S.ownBlock=QJ g\/wr.heap.size<=g:=V.imp id (λe=>by rw[e];omega);exact h g cap w' (D_.snoc (x:=t) (c:=c) (G:=G) TrR.good ⟨cs,f,X,A,hr⟩ C r B Y Z (λa1 U=>by rw[o0_ U f];exact h1) I J) I J W
def o4_ (L:List e_) (w:QV) (e:Ending) (w':QV):Prop:=∃v,e = XW v/\D_ 41 18 TrR w' (λb=>w.heap.size<=b/\b<w'.heap.size) L v/\XU w.heap.size w w'
structure CpM (w:QV) (L:List e_) (S:XZ) (wx:QV):Prop where
 hb:XU w.heap.size w wx
 own:D_ 41 18 TrR wx (λb=>w.heap.size<=b/\b<wx.heap.size) L S
theorem CpM.on {w wx w':QV} {L:List e_} {S:XZ} (h:CpM w L S wx) (hb:XU wx.heap.size wx w'):CpM w L S w':=
 ⟨h.hb.trans (hb.mono h.hb.size),(h.own.turn TrR.good (Turn.of_below hb) (λb hb=>hb.2) (λb hb=>λe=>by have e:wx.heap.size<=b:=e;have:=hb.2;omega)).mono TrR.good λb h1=>⟨h1.1,XY h1.2 hb.size⟩⟩
theorem CpM.drew {w wx:QV} {L:List e_} {S:XZ} (h:CpM w L S wx):CpM w L S wx.drew:=h.on (XV _ _).drew
theorem CpM.lt {w wx:QV} {L:List e_} {S:XZ} (h:CpM w L S wx) {b:Nat} (hb:S.ownBlock=QJ b):w.heap.size<=b/\b<wx.heap.size:=by obtain⟨_,_,_,e,_⟩:=h.own;exact e b hb
theorem CpM.more {w wr w':QV} {g cap n:Nat} {S:XZ} {L:List e_} {t:e_} {G:Nat->Prop} (h:CpM w L S wr) (e:wr.grownBy w' S.ownBlock) (x:S.ownBlock=QJ g\/wr.heap.size<=g) (r:g<w'.heap.size) (f:∀b,G b->w.heap.size<=b/\b<wr.heap.size)
    (z:D_ 41 18 TrR w' (λb=>(w.heap.size<=b/\b<wr.heap.size)\/G b\/b=g) (L++[t]) (QQ (QJ ⟨g,0,QY⟩) n cap)):CpM w (L++[t]) (QQ (QJ ⟨g,0,QY⟩) n cap) w':=by
 refine⟨i_ h.hb (Turn.of_grown e) (λb hb=>(h.lt hb.symm).1),z.mono TrR.good λb hb=>?_⟩;rcases hb with hb | hb | rfl
 ·exact⟨hb.1,XY hb.2 e.size⟩
 ·exact⟨(f b hb).1,XY (f b hb).2 e.size⟩
 ·refine⟨?_,r⟩;rcases x with h1 | h1
  ·exact (h.lt h1).1
  ·exact YK h.hb.size h1
theorem Nm_ {t:e_} {ss:Nat->XZ} (h:∀n,n<3->∃A l c,ss n = QQ A l c):∀u∈(K_ t ss).toList,u.oneCell'=true:=cf_ t ss h
theorem y9_ {F:Nat->Prop} {w:QV} {L:List e_} {A:Option Addr} {n cp:Nat} (h:SRd 18 TrR w F L A n) (hF:∀b,F b->b<w.heap.size) (hn:n<=1000000000) (ao:∀t,t∈L->∀i,Z_ (t.get i).list<=100000000) :
    Calls QW 11 #[QQ A n cp] w (o4_ L w):=by
 have H1:=q_ h;have HF:=q_ hF;have a3:=q_ ao;have L1:=q_ h.1;have HN:=q_ hn;have b8:=q_ (show CpM w [] (QQ QY 0 0) w from ⟨XV _ _,D_.nil ..⟩);clear h hF ao;go_enter Tryz.func11,Tryz.ntmps11
 go_wp2_with fail;go_loopw [3,4] (λs3 s4 wx=>∃(k:Nat) (S:XZ),k<=n/\s4 = QK QU (k:Nat)/\S=s3/\Q_ (CpM w (L.take k) S wx)) (λ_ s _=>n-(intOf s).toNat)
 case atStart=>exact⟨0,_,by omega,rfl,rfl,q_ b8.o⟩
 case round=>
  obtain⟨k,S,hk,rfl,rfl,Y⟩:=hrel;by_cases ak:k<n
  ·have a1:(0:Int)<=k:=by omega
   have a2:(k:Int)<n:=by omega
   have w1:IntKind.i64.wrap ((k:Int)+1)=(k:Int)+1:=IntWalk.i64_in _ (by omega);obtain⟨t,ht⟩:∃t,L[k]?=QJ t:=⟨_,XQ (by rw[<-L1.o];exact ak)⟩;obtain⟨ad,ss,rfl,X,N,hr⟩:=TrR.cells H1.o ht;have HT:=q_ ht;have a4:=q_ (YQ ht);have B:=q_ ak;have HR:=q_ (λ(W:QV) (hb:XU w.heap.size w W) (q:Nat) (N:q<3)=>(hr q N).under hb HF.o);have a0:=q_ (λ(W:QV) (hb:XU w.heap.size w W) g h=>XY (HF.o g h) hb.size);obtain⟨u0,C⟩:=v_ (t.get 0) (ss 0);have ba:=q_ (ad_.trans (congrArg QJ C.size.symm));have ay:=q_ (λ(W:QV) (hb:XU w.heap.size w W) (j:Nat) (J:j<u0.size)=>(show W.cell? (((ad.add (k*18)).add 0).add j)=u0[j]? from by have h1:=N (0+j) (by rw[f3_];rw[C.size]at J;omega);rw[add_of_add,hb.cell (p:=(ad.add (k*18)).add (0+j)) (by rw[N_,N_];exact HF.o _ X),h1,<-C.o];exact u_ t ss 0 (by omega) j (by rwa [C.size]at J)));have a5:=λ(W:QV) (hb:XU w.heap.size w W)=>ki_ (t.get 0) (a3.o t a4.o 0) W (a0.o W hb) (HR.o W hb 0 (by omega));rw[C.o]at a5;have au:=q_ a5;clear a5;obtain⟨u1,D⟩:=v_ (t.get 1) (ss 1);have bb:=q_ (ad_.trans (congrArg QJ D.size.symm));have az:=q_ (λ(W:QV) (hb:XU w.heap.size w W) (j:Nat) (J:j<u1.size)=>(show W.cell? (((ad.add (k*18)).add 6).add j)=u1[j]? from by have h1:=N (6+j) (by rw[f3_];rw[D.size]at J;omega);rw[add_of_add,hb.cell (p:=(ad.add (k*18)).add (6+j)) (by rw[N_,N_];exact HF.o _ X),h1,<-D.o];exact u_ t ss 1 (by omega) j (by rwa [D.size]at J)));have a6:=λ(W:QV) (hb:XU w.heap.size w W)=>ki_ (t.get 1) (a3.o t a4.o 1) W (a0.o W hb) (HR.o W hb 1 (by omega));rw[D.o]at a6;have av:=q_ a6;clear a6;obtain⟨u2,I⟩:=v_ (t.get 2) (ss 2);have bc:=q_ (ad_.trans (congrArg QJ I.size.symm));have b0:=q_ (λ(W:QV) (hb:XU w.heap.size w W) (j:Nat) (J:j<u2.size)=>(show W.cell? (((ad.add (k*18)).add 12).add j)=u2[j]? from by have h1:=N (12+j) (by rw[f3_];rw[I.size]at J;omega);rw[add_of_add,hb.cell (p:=(ad.add (k*18)).add (12+j)) (by rw[N_,N_];exact HF.o _ X),h1,<-I.o];exact u_ t ss 2 (by omega) j (by rwa [I.size]at J)));have a7:=λ(W:QV) (hb:XU w.heap.size w W)=>ki_ (t.get 2) (a3.o t a4.o 2) W (a0.o W hb) (HR.o W hb 2 (by omega));rw[I.o]at a7;have aw:=q_ a7;clear a7;clear ht X N hr;go_upto_region 5 with fail;refine wp_region_held_drew (S:=λW'=>XU w.heap.size w W') (by kernel_rfl) Y.o.hb.drew λf=>?_;refine P_.o ?_;refine C_ 0 11 (S) f λf=>?_;refine C_ 1 12 (QQ (QJ ad) n cp) f λf=>?_;refine C_ 2 13 (QK QU (k:Nat)) f λf=>?_;refine tlW 3 14 (YX (QJ (ad.add (k*18)))) f (λw z=>?_) λf=>?_
   ·exact n_ (g8_ ad n cp k B.o w)
   refine C_ 4 15 (YX (QJ ((ad.add (k*18)).add 0))) f λf=>?_;refine tlW 5 16 (.agg u0) f (λw z=>?_) λf=>?_
   ·have p:=S_ w ((ad.add (k*18)).add 0) 39 u0 _ (ay.o _ z) YZ rfl ba.o;exact n_ (by simp only[Instr.loadAt,Instr.sureAddr,Sem.run_bind];exact p)
   refine C_ 7 18 (QQ (QJ ad) n cp) f λf=>?_;refine C_ 8 19 (QK QU (k:Nat)) f λf=>?_;refine tlW 9 20 (YX (QJ (ad.add (k*18)))) f (λw z=>?_) λf=>?_
   ·exact n_ (g8_ ad n cp k B.o w)
   refine C_ 10 21 (YX (QJ ((ad.add (k*18)).add 6))) f λf=>?_;refine tlW 11 22 (.agg u1) f (λw z=>?_) λf=>?_
   ·have p:=S_ w ((ad.add (k*18)).add 6) 39 u1 _ (az.o _ z) YZ rfl bb.o;exact n_ (by simp only[Instr.loadAt,Instr.sureAddr,Sem.run_bind];exact p)
   refine C_ 13 24 (QQ (QJ ad) n cp) f λf=>?_;refine C_ 14 25 (QK QU (k:Nat)) f λf=>?_;refine tlW 15 26 (YX (QJ (ad.add (k*18)))) f (λw z=>?_) λf=>?_
   ·exact n_ (g8_ ad n cp k B.o w)
   refine C_ 16 27 (YX (QJ ((ad.add (k*18)).add 12))) f λf=>?_;refine tlW 17 28 (.agg u2) f (λw z=>?_) λf=>?_
   ·have p:=S_ w ((ad.add (k*18)).add 12) 39 u2 _ (b0.o _ z) YZ rfl bc.o;exact n_ (by simp only[Instr.loadAt,Instr.sureAddr,Sem.run_bind];exact p)
   refine tlC 6 λK x=>?_;go_simp;refine (au.o _ f).mono ?_;unfold kx_;rintro e x0 ⟨s0,rfl,hb,M⟩;obtain⟨v0,af⟩:=v_ (t.get 0) s0;rw[af.o];have a8:=q_ hb;have ab:=q_ M;have b5:=q_ (f.trans (hb.mono f.size));clear hb M;dsimp only;refine tlB x b5.o λf=>?_;clear x K;refine tlC 12 λK x=>?_;go_simp;refine (av.o _ f).mono ?_;unfold kx_;rintro e x1 ⟨s1,rfl,hb,M⟩;obtain⟨v1,ag⟩:=v_ (t.get 1) s1;rw[ag.o];have Z:=q_ hb;have ac:=q_ M;have b6:=q_ (f.trans (hb.mono f.size));clear hb M;dsimp only;refine tlB x b6.o λf=>?_;clear x K;refine tlC 18 λK x=>?_;go_simp;refine (aw.o _ f).mono ?_;unfold kx_;rintro e x2 ⟨s2,rfl,hb,M⟩;obtain⟨v2,ah⟩:=v_ (t.get 2) s2;rw[ah.o];have U:=q_ hb;have ae:=q_ M;have b7:=q_ (f.trans (hb.mono f.size));clear hb M;dsimp only;refine tlB x b7.o λf=>?_;clear x K;obtain⟨O,r⟩:∃O:Nat->XZ,O 0=s0/\O 1=s1/\O 2=s2:=⟨λi=>if i=0 then s0 else if i=1 then s1 else s2,rfl,rfl,rfl⟩
   obtain⟨ct,V⟩:=be_ t O
   have ar:=q_ (show ∀W,(Instr.build 41 #[(0,.agg v0),(1,.agg v1),(2,.agg v2)]).run QW W = .ok (.agg ct) W from λW=>by
    have:=m1_ t O W;rwa [r.1,r.2.1,r.2.2,af.o,ag.o,ah.o,V.o]at this)
   have ZC:=q_ V.size;have a9:=q_ (((Y.o.drew.on a8.o).on Z.o).on U.o)
   have b9:=q_ (show TrR x2 (λb=>wr.heap.size<=b/\b<x2.heap.size) t ct from by
    have g0:=a8.o.size;have g1:=Z.o.size;have g2:=U.o.size;refine⟨O,V.o.symm,λq N=>?_⟩;rcases (show q=0\/q=1\/q=2 by omega) with rfl | rfl | rfl
    ·rw[r.1];exact (((m2_ ab.o).under Z.o (λb hb=>hb.2)).under U.o (λb hb=>XY hb.2 g1)).mono λb hb=>⟨hb.1,XY hb.2 (YK g1 g2)⟩
    ·rw[r.2.1];exact ((m2_ ac.o).under U.o (λb hb=>hb.2)).mono λb hb=>⟨YK g0 hb.1,XY hb.2 g2⟩
    ·rw[r.2.2];exact (m2_ ae.o).mono λb hb=>⟨YK (YK g0 g1) hb.1,hb.2⟩)
   have aq:=q_ (show ∀u∈ct.toList,u.oneCell'=true from by
    rw[<-V.o];refine Nm_ λq N=>?_;rcases (show q=0\/q=1\/q=2 by omega) with rfl | rfl | rfl
    ·obtain⟨A,c,e⟩:=ab.o.form;exact⟨A,_,c,by rw[r.1,e]⟩
    ·obtain⟨A,c,e⟩:=ac.o.form;exact⟨A,_,c,by rw[r.2.1,e]⟩
    ·obtain⟨A,c,e⟩:=ae.o.form;exact⟨A,_,c,by rw[r.2.2,e]⟩)
   clear r;refine tlW 19 30 (.agg ct) f (λw z=>?_) λf=>?_
   ·refine n_ (Eq.trans (congrArg (λq=>(Instr.build 41 q).run QW w) ?_) (ar.o w));kernel_rfl
   refine tlC 20 λK x=>?_;refine N3_ (.tmp 30) rfl rfl ZC.o ?_;refine tlB x (f.alloc f.size _) λf=>?_;clear x K;refine tlC 21 λK x=>?_;refine Ju_ (.tmp 11) (.tmp 31) rfl rfl a9.o.own (show (L.take k).length=k from by rw[List.length_take];have:=L1.o;have:=B.o;omega) rfl b9.o aq.o (by have:=HN.o;have:=B.o;omega) (λb hb=>hb.2) (λb hb=>hb.2) (λb hb e=>by have:=(Y.o.lt e).2;have:=hb.1;omega) λg7 c7 w7 am ai aj ap=>?_;have aa:=q_ (a9.o.more ai aj ap (λb hb=>⟨YK Y.o.hb.size hb.1,hb.2⟩) am);clear am ai aj ap;refine tlB x aa.o.hb λf=>?_;clear x K;refine C_ 22 3 (QQ (QJ ⟨g7,0,QY⟩) (k+1) c7) f λf=>?_;refine⟨wpAnyH_done (by kernel_rfl) ?_ _⟩;clear f;go_wp2_with fail;go_roundw
   case rel=>exact⟨k+1,_,by omega,by go_num,rfl,q_ (by rw[f_ HT.o];exact aa.o)⟩
   case measure=>simp[intOf];omega
  ·have a2:¬(k:Int)<n:=by omega
   have HE:=q_ (show o4_ L w (XW S) wr from ⟨S,rfl,by have:=Y.o.own;rwa [List.take_of_length_le (by have:=L1.o;omega)]at this,Y.o.hb⟩);go_wp2_with fail;go_ret;exact HE.o
theorem r4_ {w:QV} {E sz g n cap k:Nat} {cs:Nat->Array XZ} {c:Array XZ} (h:w.ownsRow 0 E sz (QQ (QJ ⟨g,0,QY⟩) n cap) n (T_ cs n)) (U:∀i,i<n->(cs i).size=sz) (hk:k<n) (V:c.size=sz) :
    (w.setCells g (k*sz) c.toList).ownsRow 0 E sz (QQ (QJ ⟨g,0,QY⟩) n cap) n (T_ (λi=>if i=k then c else cs i) n):=by
 have f:∀i,i<n->((λi=>if i=k then c else cs i) i).size=sz:=λi hi=>by
  dsimp only;split
  ·exact V
  ·exact U i hi
 rcases h.2 with⟨h0,_⟩ | ⟨g',Y,D,h0,hb,hg,J,W,I,B⟩
 ·simp at h0
 ·simp only[Value.slice.injEq,Option.some.injEq,Addr.mk.injEq,and_true,true_and]at h0;obtain⟨rfl,rfl⟩:=h0;obtain⟨L,h1,h2,Z⟩:=g5_ c.toList (k*sz) hg;refine⟨by rw[ax_ f],.inr ⟨g,cap,L,rfl,hb,h1,J,W,by rw[h2];exact I,?_⟩⟩;have X:n*sz<=D.size:=YK (Nat.mul_le_mul_right sz J) (by rw[I];exact XJ _);refine List.ext_getElem? λj=>?_;by_cases N:j<n*sz
  ·rcases Nat.eq_zero_or_pos sz with C | C
   ·subst C;omega
   ·have hi:j / sz<n:=(Nat.div_lt_iff_lt_mul C).2 N;have O:j % sz<sz:=Nat.mod_lt _ C;have e:j=(j / sz)*sz+j % sz:=by rw[Nat.mul_comm];exact (Nat.div_add_mod j sz).symm
    have A:(D.toList.take (n*sz))[j]?=(T_ cs n)[j]?:=by rw[B]
    rw[List.getElem?_take_of_lt N,Array.getElem?_toList]at A;rw[List.getElem?_take_of_lt N,Array.getElem?_toList,Z j,Array.length_toList,V];obtain⟨a,M⟩:∃a,a=j / sz:=⟨_,rfl⟩;obtain⟨b,x⟩:∃b,b=j % sz:=⟨_,rfl⟩;rw[<-M,<-x]at e;rw[<-M]at hi;rw[<-x]at O;clear M x;subst e;rw[cq_ f hi O];by_cases r:a=k
    ·subst r;rw[if_pos ⟨by omega,by omega,by omega⟩,if_pos rfl,Nat.add_sub_cancel_left,Array.getElem?_toList]
    ·rw[if_neg r,if_neg,A,cq_ U hi O];rintro⟨q1,q2,_⟩;rcases Nat.lt_or_gt_of_ne r with z | z
     ·have:=Nat.mul_le_mul_right sz (show a+1<=k from z);rw[Nat.succ_mul]at this;omega
     ·have:=Nat.mul_le_mul_right sz (show k+1<=a from z);rw[Nat.succ_mul]at this;omega
  ·rw[List.getElem?_eq_none (by rw[List.length_take,Array.length_toList];omega),List.getElem?_eq_none (by rw[ax_ f];omega)]
section
variable {α : Type} {E:TypeId} {sz:Nat} {R:α -> Array XZ->Prop} {w w':QV} {l:List α} {g n cap:Nat}
theorem h7_ {c:Array XZ} (h:∀u∈c.toList,u.oneCell'=true):c.all (·.oneCell')=true:=by rw[<-Array.toArray_toList (xs:=c)];exact all_oneCell_toArray h
theorem cw_.set (r:fc_ sz R) (h:cw_ E sz R w l (QQ (QJ ⟨g,0,QY⟩) n cap)) (D:l.length=n) {k:Nat} (z:k<n) {x:α} {c:Array XZ} (B:R x c) :
    cw_ E sz R (w.setCells g (k*sz) c.toList) (l.set k x) (QQ (QJ ⟨g,0,QY⟩) n cap):=by
 obtain⟨cs,f,A⟩:=h;subst D;have C:∀i,i<l.length->(cs i).size=sz:=λi hi=>r.size (A i _ (XQ hi));refine⟨λi=>if i=k then c else cs i,?_,λi y b=>?_⟩
 ·rw[List.length_set];exact r4_ f C z (r.size B)
 ·dsimp only;rw[List.getElem?_set]at b;by_cases e:k=i
  ·subst e;rw[if_pos rfl,if_pos z]at b;injection b with b;subst b;rw[if_pos rfl];exact B
  ·rw[if_neg e]at b;rw[if_neg (λh=>e h.symm)];exact A i y b
end
end
end Go.Proofs.YtefhfadjajcmkaaGreatDoor
