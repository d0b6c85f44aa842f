/- A map of whole numbers to values, each number put in once: what a look-up tells, what a store makes. -/
import Derived.Test.YtefhfadjajcmkaaGreatDoorK7
import Derived.Shelf.Sort.Plain
import Derived.Shelf.GgSortFunc.Compose
import Derived.Sort.KeysCollected
import Derived.Maps.OwnRows
import Derived.WideKeyEntry
import Derived.DeepKeys4
import Derived.Laws.AppendOwnNone
set_option linter.unusedVariables false
set_option linter.unusedSimpArgs false
set_option maxRecDepth 100000
set_option maxHeartbeats 64000000
namespace Go.Proofs.YtefhfadjajcmkaaGreatDoor
open Bool renaming and_eq_true→YJ
open Go.Ending renaming returned→XW
open Go.RowKit.Below renaming refl→XV
open Go.RowKit renaming Below→XU
open Nat renaming le_refl→XJ,lt_of_lt_of_le→XY,le_trans→YK
open Go.Obj renaming cells→XX
open List renaming getElem?_eq_getElem→XQ,mem_of_getElem?→YQ
open Tryz renaming prog→QW,underlying39→YZ
open Go renaming World→QV,Value→XZ
open Go.IntKind renaming i64→QU
open Option renaming some→QJ,none→QY
open Go.Lib renaming cell_of_heap→QX
open Go.Value renaming slice→QQ,string→QZ,int→QK,bool→XK,pointer→YX,tuple→YY
open Go.Lib (cell_of_heap)
section
open Go Go.RowKit Go.Shelf Go.Sort Go.Proofs
theorem u6_ {w:QV} {g n:Nat} {d:Array (List UInt8)} {os:Array Obj}:Turn (λb=>b=g) w (grow (putRow encStr (Sort.ahead w n) g 0 d) os):=by refine⟨rfl,rfl,rfl,by simp,λi hi f=>?_⟩;rw[heap_grow_old _ _ (by simpa using hi)];have:g≠i:=λe=>f e.symm;simp[putRow,mapBlock,Sort.ahead,Array.getElem?_modify,this]
def Fm_ (l d:List ByteArray):Prop:=d.Perm l/\d.Pairwise (λa b=>¬h0_ b a<0)
theorem ul_ {w:QV} {F:Nat->Prop} {l:List ByteArray} {s:XZ} (h:D_ 9 1 TxR w F l s) (W:l.length<=100000000) :
    Calls QW 153 #[s] w λe w'=>e = XW (YY #[])/\∃N:List ByteArray,Fm_ l N/\SlR 1 TxR w' F N s/\Turn (λb=>s.ownBlock=QJ b) w w':=by
 obtain⟨cs,q,U,G,X⟩:=h;rcases q.2 with⟨C,h0⟩ | ⟨b,v,Z,C,_,hb,y,V,a0,T⟩
 ·subst C;have M:l=[]:=List.eq_nil_of_length_eq_zero h0;subst M;refine (Any.slices_Sort_string_none Tryz.lays190 QY 0 w).mono λe w' ⟨B,r⟩=>⟨B,[],⟨List.Perm.refl _,List.Pairwise.nil⟩,?_,?_⟩
  ·rw[r];exact SlR.nil ..
  ·rw[r];exact Turn.refl _ _
 ·subst C;have g:=b_ hb;have L:(l.map λs=>s.data.toList).toArray.size=l.length:=by simp
  have I:Holds encStr w b 0 (l.map λs=>s.data.toList).toArray:=by intro j p;rw[L]at p;refine⟨?_,by simp[World.frozen?,hb]⟩;have h2:=q.cellAt j (by omega);have D:=cq_ U p (show 0<1 by omega);rw[Nat.mul_one,Nat.add_zero]at D;rw[D,X j _ (XQ p)]at h2;rw[Nat.zero_add,h2,getElem!_pos _ j (by simpa using p)];simp[encStr]
  have o:=Any.slices_Sort_string Tryz.lays190 b 0 v (l.map λs=>s.data.toList) w I g (by simp;omega);rw[List.length_map]at o;refine o.mono λe w' ⟨B,n,os,r⟩=>⟨B,((l.map λs=>s.data.toList).mergeSort leB).map rf_,⟨?_,?_⟩,?_,?_⟩
  ·refine ((List.mergeSort_perm _ _).map rf_).trans (List.Perm.of_eq ?_);rw[List.map_map];exact (List.map_congr_left (λx _=>by simp[rf_])).trans (List.map_id _)
  ·rw[List.pairwise_map];have Y : ∀ a b c : List UInt8, leB a b = true -> leB b c = true -> leB a c = true := λa b c h1 h2 => by simp only [leB, decide_eq_true_eq] at *; exact List.le_trans h1 h2
   have O:∀a b:List UInt8,(leB a b || leB b a)=true:=λa b=>by simp only[leB,Bool.or_eq_true,decide_eq_true_eq];exact List.le_total a b
   refine (List.pairwise_mergeSort Y O _).imp fun {a b} h=>?_;rw[lw_];simp only[leB,decide_eq_true_eq]at h;simpa [rf_,List.not_lt] using h
  ·have f:((l.map λs=>s.data.toList).mergeSort leB).length=l.length:=by rw[List.length_mergeSort,List.length_map]
   have J:Holds encStr w' b 0 ((l.map λs=>s.data.toList).mergeSort leB).toArray:=by rw[r];exact holds_sortWorld encStr w b 0 n _ _ os g I (by simp)
   refine⟨QJ ⟨b,0,QY⟩,v,by simp,by simp;exact y,by simp,λ_=>⟨_,rfl,G b rfl,λi x u=>⟨#[QZ x],rfl,λj p=>?_,rfl⟩⟩⟩;have d:=b7_ u;rw[List.length_map,f]at d;obtain rfl:j=0:=by omega
   have h2:=(J i (by simpa [f] using d)).1;rw[List.getElem?_map,XQ (by rw[f];exact d)]at u;injection u with u;subst u;rw[Addr.add_lit,Nat.mul_one,Nat.add_zero,h2,getElem!_pos _ i (by simpa [f] using d)];simp[encStr,rf_]
  ·rw[r];exact u6_.mono λi _ hi=>by rw[hi];rfl
def jt_ (n n':h_):Prop:=n'.id=n.id/\Fm_ n.labels n'.labels/\yw_ n.props n'.props
def Ff_ (n:h_) (w:QV) (e:Ending) (w':QV):Prop:=
 ∃c n',e = XW (.agg c)/\XU w.heap.size w w'/\jt_ n n'/\NoR w' (λb=>w.heap.size<=b/\b<w'.heap.size) n' c
def j6_ (e d:l_):Prop:=d.id=e.id/\d.src=e.src/\d.dst=e.dst/\d.type=e.type/\yw_ e.props d.props
def Mo_ (x:l_) (w:QV) (e:Ending) (w':QV):Prop:=
 ∃c d,e = XW (.agg c)/\XU w.heap.size w w'/\j6_ x d/\EdR w' (λb=>w.heap.size<=b/\b<w'.heap.size) d c
def rm_ (n:h_):Prop:=n.labels.length<=2000000/\n.props.length<=2000000/\(∀s,s∈n.labels->s.size<=2000000)/\∀p,p∈n.props->B5_ p
def Ax_ (n:h_):Prop:=∀p,p∈n.props->vi_ p
def Mp_ (x:l_):Prop:=x.type.size<=2000000/\x.props.length<=2000000/\∀p,p∈x.props->B5_ p
def Aw_ (x:l_):Prop:=∀p,p∈x.props->vi_ p
theorem D_.tx {w:QV} {F F':Nat->Prop} {l:List ByteArray} {s:XZ} {E:Nat} (h:D_ E 1 TxR w F l s) (f:∀g,s.ownBlock=QJ g->F' g):D_ E 1 TxR w F' l s:=by obtain⟨cs,h1,h2,_,d⟩:=h;exact⟨cs,h1,h2,f,d⟩
theorem qp_ (n:h_) (Z:rm_ n) (a5:Ax_ n) (F:Nat->Prop) (c:Array XZ) (w:QV) (hF:∀g,F g->g<w.heap.size) (hn:NoR w F n c) :
    Calls QW 91 #[.agg c] w (Ff_ n w):=by
 obtain⟨L,P,rfl,⟨A1,c1,rfl,b9,ao⟩,U,Y,rfl,ba,ap⟩:=hn;have HF:=q_ hF;have ai:=q_ ao;have aj:=q_ ap;have a7:=q_ Z;have af:=q_ a5;obtain⟨id,Q_⟩:=a_ n.id;rw[Q_.o];obtain⟨d,a3⟩:=a_ n.labels.length;obtain⟨m2,b7⟩:=a_ n.props.length;rw[a3.o]at ai ⊢;rw[b7.o]at aj ⊢;have bh:d<=2000000:=by rw[<-a3.o];exact Z.1
 clear hF ao ap Z a5 b9 ba;obtain⟨z,q⟩:=a_ w.heap.size;obtain⟨B,G⟩:=a_ ((w.alloc (XX #[QK QU id,QQ A1 d c1,QQ U m2 Y] 72)).alloc (XX #[QK QU 0,QQ QY 0 0,QQ QY 0 0] 72));have a0:=q_ (show XU w.heap.size w B from by rw[<-G.o];exact B_ w _ _);have j:=q_ (show B.heap.size=z+2 from by rw[<-G.o,<-q.o];simp);have ah:=q_ (show B.heap[z]?=QJ (XX #[QK QU id,QQ A1 d c1,QQ U m2 Y] 72 (0,0)) from by rw[<-G.o,<-q.o,Below.heap_alloc _ _ _ (by simp)];exact heap_alloc_new w _);have b2:=q_ (show B.heap[z+1]?=QJ (XX #[QK QU 0,QQ QY 0 0,QQ QY 0 0] 72 (0,0)) from by rw[<-G.o,<-q.o];have:=heap_alloc_new (w.alloc (XX #[QK QU id,QQ A1 d c1,QQ U m2 Y] 72)) (XX #[QK QU 0,QQ QY 0 0,QQ QY 0 0] 72);simpa using this);have HC:=q_ (y5_ n.labels F A1 d c1 (by omega) B (λg hg=>by have:=HF.o g hg;have:=a0.o.size;omega) (ai.o.under TxR.good a0.o HF.o));have b1:B.cell? ⟨z,1,QY⟩=QJ (QQ A1 d c1):=QX ah.o 1;go_enter Tryz.func91,Tryz.ntmps91
 go_upto_region 1 with fail;rw[G.o,q.o];go_wp2_with fail;refine HC.o.mono ?_;rintro e u ⟨s3,rfl,I,N,ad⟩;obtain⟨A3,c3,rfl⟩:=N.form;rw[a3.o]at N ad ⊢;have b0:=q_ I;have b3:=q_ (N.tx (F':=λb=>B.heap.size<=b/\b<u.heap.size) (λg hg=>⟨ad g hg,by obtain⟨cs,h1,_⟩:=N;exact (h1.lt g hg).2⟩));have V:=q_ ((I.block z (by rw[j.o];omega)).trans ah.o);have au:=q_ ((I.block (z+1) (by rw[j.o];omega)).trans b2.o);have bi:z+2<=u.heap.size:=by have:=I.size;have:=j.o;omega
 clear I N ad b1;have d1:u.cell? ⟨z,1,QY⟩=QJ (QQ A1 d c1):=QX V.o 1;have f1:u.frozen? ⟨z,1,QY⟩=false:=Lib.frozen_of_heap V.o 1;go_upto_region 2 with fail;obtain⟨w4,aa⟩:=a_ (u.setCell ⟨z,1,QY⟩ (QQ A3 d c3));have a2:=q_ (show Turn (λb=>b=z) u w4 from by rw[<-aa.o];exact (Turn.refl (λb=>b=z) u).setCell (p:=⟨z,1,QY⟩) (.inr rfl) _);have a8:=q_ (show w4.heap[z]?=QJ (XX #[QK QU id,QQ A3 d c3,QQ U m2 Y] 72 (0,0)) from by rw[<-aa.o];exact heap_setCell_same u z 1 _ _ _ V.o);have av:=q_ ((a2.o.block (z+1) (by omega) (by omega)).trans au.o);have ak:=q_ (b3.o.turn TxR.good a2.o (λb hb=>hb.2) (λb hb e=>by have:=hb.1;have:=j.o;omega));have HS:=q_ (ul_ ak.o (by rw[a3.o];omega));rw[aa.o];have g1:w4.cell? ⟨z,1,QY⟩=QJ (QQ A3 d c3):=QX a8.o 1;clear d1 f1;go_wp2_with fail;refine HS.o.mono ?_;rintro e w5 ⟨rfl,labels,ae,aq,x⟩;have r:∀b,(Value.slice A3 d c3).ownBlock=QJ b->B.heap.size<=b:=λb hb=>by obtain⟨cs,_,_,b8,_⟩:=ak.o;exact (b8 b hb).1
 have bf:=q_ r;have az:=q_ ae;have b4:=q_ aq;have bg:=q_ x;have bb:u.heap.size<=w4.heap.size:=a2.o.size;have bc:w4.heap.size<=w5.heap.size:=x.size;have a9:=q_ ((x.block z (by omega) (λh=>by have:=r z h;have:=j.o;omega)).trans a8.o);have aw:=q_ ((x.block (z+1) (by omega) (λh=>by have:=r (z+1) h;have:=j.o;omega)).trans av.o)
 have a1:=q_ (show XU w.heap.size w w5 from
  ((a0.o.trans (b0.o.mono a0.o.size)).trans (a2.o.below (λi _ hi=>by have:=q.o;omega) (by have:=q.o;omega))).trans (x.below (λi _ hi=>by have:=r i hi;have:=j.o;have:=q.o;omega) (by have:=q.o;omega)))
 have HP:=q_ (sz_ n.props (λp hp=>⟨a7.o.2.2.2 p hp,af.o p hp⟩) a7.o.2.1 F U m2 Y w5 (λg hg=>XY (HF.o g hg) a1.o.size) (aj.o.under PaR.good a1.o HF.o));have g2:w5.cell? ⟨z,2,QY⟩=QJ (QQ U m2 Y):=QX a9.o 2;clear ae aq x r g1;go_wp2_with fail;refine HP.o.mono ?_;rintro e w6 ⟨s6,rfl,J,props,ar,y,C,rfl,M,O⟩;obtain⟨T,a4⟩:=a_ props.length;rw[a4.o]at O M ⊢;have ag:=q_ J;have b6:=q_ ar;have b5:=q_ (And.intro M O);have bd:w5.heap.size<=w6.heap.size:=J.size;have W:=q_ ((J.block z (by omega)).trans a9.o);have ay:=q_ ((J.block (z+1) (by omega)).trans aw.o);have g2:w6.cell? ⟨z,2,QY⟩=QJ (QQ U m2 Y):=QX W.o 2;have f2:w6.frozen? ⟨z,2,QY⟩=false:=Lib.frozen_of_heap W.o 2;clear J ar M O;go_upto_region 4 with fail;obtain⟨w7,ab⟩:=a_ (w6.setCell ⟨z,2,QY⟩ (QQ y T C));have am:=q_ (show Turn (λb=>b=z) w6 w7 from by rw[<-ab.o];exact (Turn.refl (λb=>b=z) w6).setCell (p:=⟨z,2,QY⟩) (.inr rfl) _);have X:=q_ (show w7.heap[z]?=QJ (XX #[QK QU id,QQ A3 d c3,QQ y T C] 72 (0,0)) from by rw[<-ab.o];exact heap_setCell_same w6 z 2 _ _ _ W.o);have f:=q_ ((am.o.block (z+1) (by omega) (by omega)).trans ay.o);rw[ab.o];have g0:w7.cell? ⟨z,0,QY⟩=QJ (QK QU id):=QX X.o 0;have g1:w7.cell? ⟨z,1,QY⟩=QJ (QQ A3 d c3):=QX X.o 1;have g2:w7.cell? ⟨z,2,QY⟩=QJ (QQ y T C):=QX X.o 2;have r0:w7.cell? ⟨z+1,0,QY⟩=QJ (QK QU 0):=QX f.o 0;have y0:w7.frozen? ⟨z+1,0,QY⟩=false:=Lib.frozen_of_heap f.o 0;have r1:w7.cell? ⟨z+1,1,QY⟩=QJ (QQ QY 0 0):=QX f.o 1;have y1:w7.frozen? ⟨z+1,1,QY⟩=false:=Lib.frozen_of_heap f.o 1;have r2:w7.cell? ⟨z+1,2,QY⟩=QJ (QQ QY 0 0):=QX f.o 2;have y2:w7.frozen? ⟨z+1,2,QY⟩=false:=Lib.frozen_of_heap f.o 2;go_wp2_with fail;obtain⟨w9,ac⟩:=a_ (((w7.setCell ⟨z+1,0,QY⟩ (QK QU id)).setCell ⟨z+1,1,QY⟩ (QQ A3 d c3)).setCell ⟨z+1,2,QY⟩ (QQ y T C));have a6:w9.heap[z+1]?=QJ (XX #[QK QU id,QQ A3 d c3,QQ y T C] 72 (0,0)):=by rw[<-ac.o];exact heap_setCell_same _ (z+1) 2 _ _ _ (heap_setCell_same _ (z+1) 1 _ _ _ (heap_setCell_same _ (z+1) 0 _ _ _ f.o))
 have D:=q_ (show Turn (λb=>b=z\/b=z+1) w6 w9 from by rw[<-ac.o];exact (((am.o.mono (S':=λb=>b=z\/b=z+1) (λi _ h=>.inl h)).setCell (p:=⟨z+1,0,QY⟩) (.inr (.inr rfl)) _).setCell (p:=⟨z+1,1,QY⟩) (.inr (.inr rfl)) _).setCell (p:=⟨z+1,2,QY⟩) (.inr (.inr rfl)) _);rw[ac.o];have q0:w9.cell? ⟨z+1,0,QY⟩=QJ (QK QU id):=QX a6 0;have q1:w9.cell? ⟨z+1,1,QY⟩=QJ (QQ A3 d c3):=QX a6 1;have q2:w9.cell? ⟨z+1,2,QY⟩=QJ (QQ y T C):=QX a6 2;clear a6 r0 r1 r2 y0 y1 y2 g0 g1 g2 f2;go_wp2_with fail;refine bodyPost_ret (v:=.agg #[QK QU id,QQ A3 d c3,QQ y T C]) (by simp[results,Tryz.results91,go_sem,q0,q1,q2]) rfl ⟨_,⟨id,labels,props⟩,rfl,?_,⟨Q_.o.symm,az.o,b6.o⟩,_,_,rfl,?_,?_⟩
 ·exact (a1.o.trans (ag.o.mono a1.o.size)).trans (D.o.below (λi _ h=>by have:=q.o;omega) (by have:=q.o;omega))
 ·have hk:∀p:Addr,B.heap.size<=p.block/\p.block<u.heap.size->w9.cell? p=w5.cell? p:=λp hp=>
    (D.o.cell (by omega) (λh=>by have:=hp.1;have:=j.o;omega)).trans (ag.o.cell (by omega))
  refine SlR.mono TxR.good (SlR.keep TxR.good b4.o hk) λb hb=>⟨?_,?_⟩
  ·have:=hb.1;have:=j.o;have:=q.o;omega
  ·have:=hb.2;have:=D.o.size;omega
 ·obtain⟨M,O⟩:=b5.o
  have hk:∀p:Addr,w5.heap.size<=p.block/\p.block<w6.heap.size->w9.cell? p=w6.cell? p:=λp hp=>
   D.o.cell hp.2 (λh=>by have:=hp.1;omega)
  refine SlR.mono PaR.good (SlR.keep (s:=QQ y T C) PaR.good ⟨y,C,by rw[a4.o],by rw[a4.o];exact M,by rw[a4.o];exact O⟩ hk) λb hb=>⟨?_,?_⟩
  ·have:=hb.1;have:=q.o;omega
  ·have:=hb.2;have:=D.o.size;omega
theorem p6_ (x:l_) (a5:Mp_ x) (U:Aw_ x) (F:Nat->Prop) (c:Array XZ) (w:QV) (hF:∀g,F g->g<w.heap.size) (hn:EdR w F x c) :
    Calls QW 93 #[.agg c] w (Mo_ x w):=by
 obtain⟨P,rfl,V,W,rfl,ai,ab⟩:=hn;have HF:=q_ hF;have a8:=q_ ab;have Y:=q_ a5;have a6:=q_ U;obtain⟨id,Q_⟩:=a_ x.id;obtain⟨src,a3⟩:=a_ x.src;obtain⟨dst,a2⟩:=a_ x.dst;obtain⟨f,a4⟩:=a_ x.type;obtain⟨X,aa⟩:=a_ x.props.length;rw[aa.o]at a8;rw[Q_.o,a3.o,a2.o,a4.o,aa.o];clear hF ab a5 U ai;obtain⟨z,N⟩:=a_ w.heap.size;obtain⟨C,B⟩:=a_ ((w.alloc (XX #[QK QU id,QK QU src,QK QU dst,QZ f,QQ V X W] 74)).alloc (XX #[QK QU 0,QK QU 0,QK QU 0,QZ ⟨#[]⟩,QQ QY 0 0] 74));have O:=q_ (show XU w.heap.size w C from by rw[<-B.o];exact B_ w _ _);have q:=q_ (show C.heap.size=z+2 from by rw[<-B.o,<-N.o];simp);have a7:=q_ (show C.heap[z]?=QJ (XX #[QK QU id,QK QU src,QK QU dst,QZ f,QQ V X W] 74 (0,0)) from by rw[<-B.o,<-N.o,Below.heap_alloc _ _ _ (by simp)];exact heap_alloc_new w _);have af:=q_ (show C.heap[z+1]?=QJ (XX #[QK QU 0,QK QU 0,QK QU 0,QZ ⟨#[]⟩,QQ QY 0 0] 74 (0,0)) from by rw[<-B.o,<-N.o];have:=heap_alloc_new (w.alloc (XX #[QK QU id,QK QU src,QK QU dst,QZ f,QQ V X W] 74)) (XX #[QK QU 0,QK QU 0,QK QU 0,QZ ⟨#[]⟩,QQ QY 0 0] 74);simpa using this);have HP:=q_ (sz_ x.props (λp hp=>⟨Y.o.2.2 p hp,a6.o p hp⟩) Y.o.2.1 F V X W C (λg hg=>by have:=HF.o g hg;have:=O.o.size;omega) (a8.o.under PaR.good O.o HF.o));have b4:C.cell? ⟨z,4,QY⟩=QJ (QQ V X W):=QX a7.o 4;go_enter Tryz.func93,Tryz.ntmps93
 go_upto_region 1 with fail;rw[B.o,N.o];go_wp2_with fail;refine HP.o.mono ?_;rintro e w6 ⟨s6,rfl,D,props,ac,u,y,rfl,G,I⟩;obtain⟨J,T⟩:=a_ props.length;rw[T.o]at I G ⊢;have ae:=q_ D;have ah:=q_ ac;have ag:=q_ (And.intro G I);have aj:C.heap.size<=w6.heap.size:=D.size;have M:=q_ ((D.block z (by rw[q.o];omega)).trans a7.o);have ad:=q_ ((D.block (z+1) (by rw[q.o];omega)).trans af.o);have g4:w6.cell? ⟨z,4,QY⟩=QJ (QQ V X W):=QX M.o 4;have f4:w6.frozen? ⟨z,4,QY⟩=false:=Lib.frozen_of_heap M.o 4;clear D ac G I b4;go_upto_region 2 with fail;obtain⟨w7,a0⟩:=a_ (w6.setCell ⟨z,4,QY⟩ (QQ u J y));have a9:=q_ (show Turn (λb=>b=z) w6 w7 from by rw[<-a0.o];exact (Turn.refl (λb=>b=z) w6).setCell (p:=⟨z,4,QY⟩) (.inr rfl) _);have j:=q_ (show w7.heap[z]?=QJ (XX #[QK QU id,QK QU src,QK QU dst,QZ f,QQ u J y] 74 (0,0)) from by rw[<-a0.o];exact heap_setCell_same w6 z 4 _ _ _ M.o);have d:=q_ ((a9.o.block (z+1) (by have:=q.o;omega) (by omega)).trans ad.o);rw[a0.o];have g0:w7.cell? ⟨z,0,QY⟩=QJ (QK QU id):=QX j.o 0;have g1:w7.cell? ⟨z,1,QY⟩=QJ (QK QU src):=QX j.o 1;have g2:w7.cell? ⟨z,2,QY⟩=QJ (QK QU dst):=QX j.o 2;have g3:w7.cell? ⟨z,3,QY⟩=QJ (QZ f):=QX j.o 3;have r0:w7.cell? ⟨z+1,0,QY⟩=QJ (QK QU 0):=QX d.o 0;have y0:w7.frozen? ⟨z+1,0,QY⟩=false:=Lib.frozen_of_heap d.o 0;have r1:w7.cell? ⟨z+1,1,QY⟩=QJ (QK QU 0):=QX d.o 1;have y1:w7.frozen? ⟨z+1,1,QY⟩=false:=Lib.frozen_of_heap d.o 1;have r2:w7.cell? ⟨z+1,2,QY⟩=QJ (QK QU 0):=QX d.o 2;have y2:w7.frozen? ⟨z+1,2,QY⟩=false:=Lib.frozen_of_heap d.o 2;have r3:w7.cell? ⟨z+1,3,QY⟩=QJ (QZ ⟨#[]⟩):=QX d.o 3;have y3:w7.frozen? ⟨z+1,3,QY⟩=false:=Lib.frozen_of_heap d.o 3;have r4:w7.cell? ⟨z+1,4,QY⟩=QJ (QQ QY 0 0):=QX d.o 4;have y4:w7.frozen? ⟨z+1,4,QY⟩=false:=Lib.frozen_of_heap d.o 4;clear g4 f4;have g4:w7.cell? ⟨z,4,QY⟩=QJ (QQ u J y):=QX j.o 4;go_wp2_with fail;obtain⟨L,a1⟩:=a_ ((((((w7.setCell ⟨z+1,0,QY⟩ (QK QU id)).setCell ⟨z+1,1,QY⟩ (QK QU src)).setCell ⟨z+1,2,QY⟩ (QK QU dst)).setCell ⟨z+1,3,QY⟩ (QZ f)).setCell ⟨z+1,4,QY⟩ (QQ u J y)))
 have r:L.heap[z+1]?=QJ (XX #[QK QU id,QK QU src,QK QU dst,QZ f,QQ u J y] 74 (0,0)):=by rw[<-a1.o];exact (heap_setCell_same _ (z+1) 4 _ _ _ (heap_setCell_same _ (z+1) 3 _ _ _ (heap_setCell_same _ (z+1) 2 _ _ _ (heap_setCell_same _ (z+1) 1 _ _ _ (heap_setCell_same _ (z+1) 0 _ _ _ d.o)))))
 have Z:=q_ (show Turn (λb=>b=z\/b=z+1) w6 L from by rw[<-a1.o];exact ((((((a9.o.mono (S':=λb=>b=z\/b=z+1) (λi _ h=>.inl h)).setCell (p:=⟨z+1,0,QY⟩) (.inr (.inr rfl)) _).setCell (p:=⟨z+1,1,QY⟩) (.inr (.inr rfl)) _).setCell (p:=⟨z+1,2,QY⟩) (.inr (.inr rfl)) _).setCell (p:=⟨z+1,3,QY⟩) (.inr (.inr rfl)) _).setCell (p:=⟨z+1,4,QY⟩) (.inr (.inr rfl)) _));rw[a1.o];have q0:L.cell? ⟨z+1,0,QY⟩=QJ (QK QU id):=QX r 0;have q1:L.cell? ⟨z+1,1,QY⟩=QJ (QK QU src):=QX r 1;have q2:L.cell? ⟨z+1,2,QY⟩=QJ (QK QU dst):=QX r 2;have q3:L.cell? ⟨z+1,3,QY⟩=QJ (QZ f):=QX r 3;have q4:L.cell? ⟨z+1,4,QY⟩=QJ (QQ u J y):=QX r 4;clear r r0 y0 g0 r1 y1 g1 r2 y2 g2 r3 y3 g3 r4 y4 g4;go_wp2_with fail;refine bodyPost_ret (v:=.agg #[QK QU id,QK QU src,QK QU dst,QZ f,QQ u J y]) (by simp[results,Tryz.results93,go_sem,q0,q1,q2,q3,q4]) rfl ⟨_,⟨id,src,dst,f,props⟩,rfl,?_,⟨Q_.o.symm,a3.o.symm,a2.o.symm,a4.o.symm,ah.o⟩,_,rfl,?_⟩
 ·exact (O.o.trans (ae.o.mono O.o.size)).trans (Z.o.below (λi _ h=>by have:=N.o;omega) (by have:=N.o;have:=q.o;omega))
 ·obtain⟨G,I⟩:=ag.o
  have hk:∀p:Addr,C.heap.size<=p.block/\p.block<w6.heap.size->L.cell? p=w6.cell? p:=λp hp=>
   Z.o.cell hp.2 (λh=>by have:=hp.1;have:=q.o;omega)
  refine SlR.mono PaR.good (SlR.keep (s:=QQ u J y) PaR.good ⟨u,y,by rw[T.o],by rw[T.o];exact G,by rw[T.o];exact I⟩ hk) λb hb=>⟨?_,?_⟩
  ·have:=hb.1;have:=N.o;have:=q.o;omega
  ·have:=hb.2;have:=Z.o.size;omega
end
section
open Go Go.RowKit Go.Maps Go.WideMaps Go.WideElems Go.MapKept Go.ChangeMaps
theorem wf_ {es:List MapEntry} (g:es.Pairwise λx y=>x.key≠y.key) {i j:Nat} {a b:MapEntry} (hi:es[i]?=QJ a) (o:es[j]?=QJ b) (h:a.key=b.key):i=j:=by
 obtain⟨d,rfl⟩:=List.getElem?_eq_some_iff.1 hi;obtain⟨f,rfl⟩:=List.getElem?_eq_some_iff.1 o;rw[List.pairwise_iff_getElem]at g;rcases Nat.lt_trichotomy i j with h1 | h1 | h1
 ·exact absurd h (g i j d f h1)
 ·exact h1
 ·exact absurd h.symm (g j i f d h1)
section
variable {H:Type} {P:Program} {t k e:TypeId} {R:XZ->Option (DataW H×List MemPlace)} {b:Nat} {es:Array MapEntry} {clock:Nat}
theorem C1_ (K:Keyed P k) (ht:P.underlying t=QJ (.map k e)) {z:XZ} (hz:∀u:QV,(zeroValue e).run P u = .ok z u) (F:Fit P k R es clock) {key:XZ} {X:Lit} (f:keyOf P k key=QJ X) (w:QV) (hb:w.heap[b]?=QJ (.map es clock)) :
    ∃(O:XZ) (st:Nat) (es1:Array MapEntry) (clock1:Nat),(Instr.mapEntry t (.map (QJ b)) key).run P w = .ok (YY #[O,goInt st]) (setBlock w b (.map es1 clock1)) /\
     (∀d:QV,d.heap[b]?=QJ (.map es clock)->(Instr.lookup t (.map (QJ b)) key false).run P d = .ok O d) /\
     ∀val:XZ,∃G q,(∀w2:QV,w2.heap[b]?=QJ (.map es1 clock1)->(Instr.entryStore t (.map (QJ b)) (goInt st) val).run P w2 = .ok () (setBlock w2 b (.map G q))) /\
      ∀d:QV,d.heap[b]?=QJ (.map es clock)->(Instr.mapUpdate t (.map (QJ b)) key val).run P d = .ok () (setBlock d b (.map G q)):=by
 obtain⟨Y,N,_⟩:=F.stamped;have V:es.toList.Pairwise (λx y=>x.key≠y.key):=((stamped_iff es clock).1 F.stamped).2.2;rcases K.find w f es.toList F.keys with⟨h1,h2⟩ | ⟨j,e0,h1,h2,C⟩
 ·have h:∀d:QV,(Instr.findKey k key es.toList).run P d = .ok QY d:=λd=>by
    rcases K.find d f es.toList F.keys with⟨J,_⟩ | ⟨j,e0,_,p,L⟩
    ·exact J
    ·exact absurd L (h2 e0 (YQ p))
  refine⟨z,clock,es.push ⟨key,z,clock⟩,clock+1,?_,λd g=>?_,λval=>⟨es.push ⟨key,val,clock⟩,clock+1,λw2 r=>?_,λd g=>?_⟩⟩
  ·simp[Instr.mapEntry,run_underlying ht,MapKept.run_getObj_map hb,K.check w false f,h1,hz,MapKept.run_setObj_map _ hb,Result.andThen,setBlock]
  ·simp[Instr.lookup,run_underlying ht,MapKept.run_getObj_map g,K.check d _ f,h d,hz,Result.andThen]
  ·have v:(es.push ⟨key,z,clock⟩).findIdx? (λe=>((e.born:Nat):Int)==((clock:Nat):Int))=QJ es.size:=by rw[findIdx_arr];have:=findIdx_born (l:=(es.push ⟨key,z,clock⟩).toList) (j:=es.size) (e0:=⟨key,z,clock⟩) (by simp only[Array.toList_push,List.map_append,List.map_cons,List.map_nil];refine List.nodup_append.2 ⟨N,by simp,λa T c U e1=>?_⟩;simp only[List.mem_singleton]at U;obtain⟨x,W,rfl⟩:=List.mem_map.1 T;have:=Y x W;omega) (by simp);exact this
   have B:(es.push ⟨key,z,clock⟩).modify es.size (λe=>{ e with val:=val })=es.push ⟨key,val,clock⟩:=by apply Array.ext';rw[Array.toList_modify,Array.toList_push,Array.toList_push,<-Array.length_toList,modify_last]
   simp[Instr.entryStore,MapKept.run_getObj_map r,asInt,asIntOf,goInt,v,B,MapKept.run_setObj_map _ r,Result.andThen,setBlock]
  ·simp[Instr.mapUpdate,run_underlying ht,MapKept.run_getObj_map g,K.check d false f,h d,MapKept.run_setObj_map _ g,Result.andThen,setBlock]
 ·have M:es[j]?=QJ e0:=by simpa using h2
  have o:∀d:QV,(Instr.findKey k key es.toList).run P d = .ok (QJ (j,e0.val)) d:=λd=>by
   rcases K.find d f es.toList F.keys with⟨_,p⟩ | ⟨j',Z,J,p,L⟩
   ·exact absurd C (p e0 (YQ h2))
   ·obtain rfl:=wf_ V h2 p (by rw[C,L]);rw[h2]at p;injection p with p;rw[p];exact J
  have D:es.modify j (λe=>{ e with key:=key })=es:=by
   apply Array.ext';rw[Array.toList_modify,modify_eq_set _ _ _ _ h2];have:({ e0 with key:=key }:MapEntry)=e0:=by rw[<-C]
   rw[this];exact set_self _ _ _ h2
  refine⟨e0.val,e0.born,es,clock,?_,λd g=>?_,λval=>⟨es.modify j (λI=>{ I with key:=key,val:=val }),clock,λw2 r=>?_,λd g=>?_⟩⟩
  ·simp[Instr.mapEntry,run_underlying ht,MapKept.run_getObj_map hb,K.check w false f,h1,M,C,K.stays w f,D,MapKept.run_setObj_map _ hb,Result.andThen,setBlock]
  ·simp[Instr.lookup,run_underlying ht,MapKept.run_getObj_map g,K.check d _ f,o d,Result.andThen]
  ·have v:es.findIdx? (λe=>((e.born:Nat):Int)==((e0.born:Nat):Int))=QJ j:=by rw[findIdx_arr];exact findIdx_born N h2
   have B:es.modify j (λe=>{ e with val:=val })=es.modify j (λI=>{ I with key:=key,val:=val }):=by apply Array.ext';rw[Array.toList_modify,Array.toList_modify,modify_eq_set _ _ _ _ h2,modify_eq_set _ _ _ _ h2,<-C]
   simp[Instr.entryStore,MapKept.run_getObj_map r,asInt,asIntOf,goInt,v,B,MapKept.run_setObj_map _ r,Result.andThen,setBlock]
  ·simp[Instr.mapUpdate,run_underlying ht,MapKept.run_getObj_map g,K.check d false f,o d,M,C,K.stays d f,MapKept.run_setObj_map _ g,Result.andThen,setBlock]
end
theorem Hy_:laidOutB QW=true:=by kernel_rfl
theorem K9_:Keyed QW 165:=Keyed.of_law (deep_law_laid (m:=9999) Hy_ (by decide) (of_decide_eq_true (by kernel_rfl)) (by kernel_rfl) (by kernel_rfl))
theorem Hv_:Tryz.prog.keyType 165=true:=by kernel_rfl
theorem F2_:Tryz.prog.cellsOf 165=2:=by kernel_rfl
theorem F3_:Tryz.prog.cellsOf 2=1:=by kernel_rfl
theorem F4_:Tryz.prog.cellsOf 3=1:=by kernel_rfl
theorem O4_ (a d:Int) (f:VI a) (g:VI d):∃l,keyOf QW 165 (.agg #[QK QU a,QK QU d])=QJ l:=by obtain⟨m,h⟩:∃m,Tryz.prog.types.size=m+1:=⟨Tryz.prog.types.size-1,by kernel_rfl⟩;unfold VI at f g;unfold keyOf;rw[Tryz.underlying165,h];simp[Hv_,Value.formed,Tryz.underlying165,F2_,F3_,F4_,Program.keyLits,Tryz.underlying2,Tryz.underlying3,Value.cells,f,g]
noncomputable def H1_ (a d:Int):Lit:=match keyOf QW 165 (.agg #[.int .i64 a,.int .i64 d]) with
 | some l=>l
 | none=>.bool false
theorem ox_ {a d:Int} (f:VI a) (g:VI d):keyOf QW 165 (.agg #[QK QU a,QK QU d])=QJ (H1_ a d):=by obtain⟨l,h⟩:=O4_ a d f g;unfold H1_;rw[h]
theorem H2_ {a d f g:Int} (p:VI a) (q:VI d) (j:VI f) (o:VI g) (h:H1_ a d=H1_ f g):a=f/\d=g:=by have h1:=ox_ p q;rw[h]at h1;have h2:=K9_.inj h1 (ox_ j o);injection h2 with h2;injection h2 with h2;injection h2 with h2 h3;injection h3 with h3;injection h2 with _ h2;injection h3 with _ h3;exact⟨h2,h3⟩
def Mf_:DataW Unit->List (DataW Unit)
 | .slice es _=>es
 | _=>[]
open Go.ChangeShapes in
theorem sq_ {w:QV} {d:Nat} {e:TypeId} {q:IntKind} {v:XZ} {f:List Int} (h:w.ownsInts d e q v f):Mf_ (rowDatum (H:=Unit) q v f)=lits q f:=by
 rcases h.datum (H:=Unit) with⟨h1,h2⟩ | h1
 ·rw[h1,h2];rfl
 ·rw[h1];rfl
def Om_ (l:List Nat):List Int:=l.map Int.ofNat
def ds_ (w:QV) (f m n:Nat) (H:Int->Int->List Nat):Prop:=
 ∃D:DataW Unit,w.ownsGroups QW 165 f 3 QU m n D/\∀a d,VI a->VI d->Mf_ (D.atKey (H1_ a d) .nil)=Go.ChangeShapes.lits QU (Om_ (H a d))
theorem ds_.isMap {w:QV} {d m n:Nat} {D:DataW Unit} (h:w.ownsGroups QW 165 d 3 QU m n D):IsMap D:=by obtain⟨es,clock,_,_,_,rfl,_⟩:=h;exact⟨_,rfl⟩
theorem wg_ {H:Type} {P:Program} {k:TypeId} {d:Nat} {e:TypeId} {q:IntKind} {b n:Nat} {D:DataW H} {w w':QV} {S:Nat->Prop} (h:w.ownsGroups P k d e q b n D) (ht:Turn S w w') (hb:¬S b) (N:∀g,d<=g->¬S g):w'.ownsGroups P k d e q b n D:=by
 obtain⟨es,clock,r,F,O,rfl,G,B,C⟩:=h;have j:∀{v:XZ} {p:List Int},w.ownsInts d e q v p->w'.ownsInts d e q v p:=λf=>⟨ht.owns f.1 (λg M=>N g (f.1.lt g M).1),f.2⟩;have I:∀x∈es.toList,∀z,rowElem (H:=H) w d e q x.val=QJ z->rowElem w' d e q x.val=QJ z:=by intro x _ z hz;obtain⟨U,f,rfl⟩:=rowElem_inv hz;exact rowElem_mk (j f)
 obtain⟨L,o,_⟩:=F.stay I;refine⟨es,clock,(ht.block b (b_ r) hb).trans r,L,O,by rw[o],G,λx J U f=>?_,C⟩;obtain⟨y,T⟩:=F.reads x J;obtain⟨z,hz,_⟩:=rd_val T;obtain⟨p,u,_⟩:=rowElem_inv hz;rw[f.unique (j u)];exact B x J p u
theorem ds_.turn {w w':QV} {d m n:Nat} {H:Int->Int->List Nat} {S:Nat->Prop} (h:ds_ w d m n H) (ht:Turn S w w') (f:¬S m) (j:∀g,d<=g->¬S g):ds_ w' d m n H:=by obtain⟨D,h1,h2⟩:=h;exact⟨D,wg_ h1 ht f j,h2⟩
theorem r9_ (w:QV) (b:Nat) (o d:Obj):setBlock (setBlock w b o) b d=setBlock w b d:=by unfold setBlock;simp
def dv_ (H:Int->Int->List Nat) (a d:Int) (x:Nat):Int->Int->List Nat:=λf g=>if f=a/\g=d then H a d++[x] else H f g
def f0_ (w:QV) (b:Nat):Prop:=∀(cs:Array XZ) (e:TypeId) (f:Nat×Nat),w.heap[b]?=QJ (XX cs e f)->e=3
theorem xv_ {w:QV} {b:Nat} (h:w.heap.size<=b):f0_ w b:=λcs e f hb=>by
 rw[Array.getElem?_eq_none h]at hb
 cases hb
theorem xw_ {w:QV} {d sz n:Nat} {v:XZ} {xs:List XZ} (h:w.ownsRow d 3 sz v n xs) {g:Nat} (j:v.ownBlock=QJ g):f0_ w g:=λcs e f hb=>by
 rcases h.2 with⟨rfl,_⟩ | ⟨o,q,r,rfl,_,p,_⟩
 ·cases j
 ·have h1:o=g:=by injection j
  subst h1;rw[p]at hb;injection hb with hb;injection hb with _ h2 _;exact h2.symm
def J2_ (f m n:Nat) (H:Int->Int->List Nat) (a d:Int) (x:Nat) (w:QV) (e:Ending) (w':QV):Prop:=
 e = XW (YY #[])/\ds_ w' f m (n+1) (dv_ H a d x)/\Turn (λb=>b=m\/(f<=b/\f0_ w b)) w w'
theorem jn_ (p f m n:Nat) (H:Int->Int->List Nat) (a d:Int) (x:Nat) (Ns Es T A:XZ) (w:QV) (hp:w.heap[p]?=QJ (XX #[Ns,Es,.map (QJ m),T,A] 143 (0,0)))
    (hh:ds_ w f m n H) (ha:VI a) (hd:VI d) (hx:x<=1000000) (hn:n<=1000000) (ai:f<=w.heap.size) :
    Calls QW 99 #[YX (QJ ⟨p,0,QY⟩),QK QU a,QK QU d,QK QU (x:Int)] w (J2_ f m n H a d x w):=by
 obtain⟨D,X,O⟩:=hh;have W:=ox_ ha hd;obtain⟨v,zs,ag,a5,a3,au,a0⟩:=X.at K9_ Tryz.underlying140 (E:=94) (by kernel_rfl) (by unfold maxLen;omega) W;have M:=ds_.isMap X;obtain⟨es,clock,a1,F,hs,bc,bn,ay,bd⟩:=X;have ae:=b_ a1;have az:=b_ hp;obtain⟨z,V⟩:=a_ w.heap.size;obtain⟨w2,Y⟩:=a_ (((w.alloc (XX #[QK QU a,QK QU d] 165)).alloc (XX #[QK QU (x:Int)] 3)).drew);have q:=q_ (show XU w.heap.size w w2 from by rw[<-Y.o];exact (((XV _ _).alloc (XJ _) _).alloc (by simp) _).drew);have a8:=q_ (show w2.heap.size=z+2 from by rw[<-Y.o,<-V.o];show ((w.alloc _).alloc _).heap.size=_;simp);have b8:=q_ (show w2.heap[z+1]?=QJ (XX #[QK QU (x:Int)] 3 (0,0)) from by rw[<-Y.o,<-V.o];have h1:=heap_alloc_new (w.alloc (XX #[QK QU a,QK QU d] 165)) (XX #[QK QU (x:Int)] 3);rw[show (w.alloc (XX #[QK QU a,QK QU d] 165)).heap.size=w.heap.size+1 by simp]at h1;exact h1);have U:w2.heap[m]?=QJ (.map es clock):=(q.o.block m ae).trans a1;obtain⟨v0,st,ab,B,bg,ap,ar⟩:=C1_ (b:=m) (t:=140) K9_ Tryz.underlying140 (z:=QQ QY 0 0) (λu=>by kernel_rfl) F W w2 U;have bi:v0=v:=by have h1:=ap w a1;rw[ag]at h1;injection h1 with h1;exact h1.symm
 subst bi;obtain⟨w3,a9⟩:=a_ (setBlock w2 m (.map ab B));rw[a9.o,<-Y.o]at bg;have r:=q_ (show Turn (λb=>b=m) w2 w3 from by rw[<-a9.o];exact⟨rfl,rfl,rfl,by simp[setBlock],λi _ hi=>heap_setBlock_other U _ hi⟩);have b6:=q_ (show w3.heap[m]?=QJ (.map ab B) from by rw[<-a9.o];exact heap_setBlock_same U _);have j:∀g,v0.ownBlock=QJ g->f<=g/\g<w.heap.size:=λg L=>a3.1.lt g L;have am:=q_ j;have a7:=q_ (r.o.owns ((Turn.of_below q.o).owns a3.1 (λg L h=>by have:=(j g L).2;omega)) (λg L h=>by have:=(j g L).1;omega));obtain⟨ln,aa⟩:=a_ zs.length;rw[aa.o]at a7;have bp:ln<=1000000:=by rw[<-aa.o];omega
 have ah:=q_ (World.news_of_block (w:=w3) (cs:=#[QK QU (x:Int)]) ((r.o.block (z+1) (by rw[a8.o];omega) (by have:=V.o;omega)).trans b8.o));obtain⟨S3,J⟩:=a_ w3.heap.size;have bm:z+2<=S3:=by have:=r.o.size;have:=a8.o;have:=J.o;omega
 have ba:=q_ ar;have b4:=q_ a0;have a6:=q_ a3;have b3:=q_ (And.intro O (And.intro a5 M));have bb:=q_ au;have br:f<=z:=by rw[<-V.o];exact ai
 have bq:m<z:=by rw[<-V.o];exact ae
 have av:=q_ U;have aq:=q_ (And.intro ha hd);have c2:((w.alloc (XX #[QK QU a,QK QU d] 165)).drew).cell? ⟨p,2,QY⟩=QJ (.map (QJ m)):=by rw[show (w.alloc (XX #[QK QU a,QK QU d] 165)).drew.cell? ⟨p,2,QY⟩=(w.alloc (XX #[QK QU a,QK QU d] 165)).cell? ⟨p,2,QY⟩ from rfl,World.cell?_alloc_lt w _ _ az];exact QX hp 2
 have bl:w.cell? ⟨p,2,QY⟩=QJ (.map (QJ m)):=QX hp 2;clear ap ar a0 O a3 a5 F hs bc ay bd a1 U j ag W hp au M ha hd;obtain⟨i0,bf,b0,b1,b2⟩:=info_parts jb_;go_enter Tryz.func99,Tryz.ntmps99
 go_upto_region 1 with fail;go_region_law (refine step_append_lies _ rfl _ _ 94 rfl f 3 i0 (QK QU 0) 1 8 Tryz.underlying94 bf b0 b1 b2 rfl (by decide) v0 ln (zs.map (Value.int QU)) rfl (by exact a7.o) ⟨w.heap.size+1,0,QY⟩ 1 1 [QK QU (x:Int)] rfl rfl (by rw[V.o];exact ah.o) (lu_ _ _) (by omega) (by unfold maxLen;omega) (by omega) (by have:=J.o;omega) S3 (by exact J.o) (λg cp C ho L hl _=>?_);obtain⟨ao,N,ac,af⟩:=ba.o (QQ (QJ ⟨g,0,QY⟩) (ln+1) cp);have I:=q_ (show C.heap[m]?=QJ (.map ab B) from (L.block m (by have:=J.o;omega) (λe=>by have:=(am.o m e.symm).1;omega)).trans b6.o);have bo:(Instr.entryStore 140 (.map (QJ m)) (QK QU (st:Int)) (QQ (QJ ⟨g,0,QY⟩) (ln+1) cp)).run QW C = .ok () (setBlock C m (.map ao N)):=ac C I.o;have b7:=q_ af;have b9:=q_ ho;have G:=q_ L;have b5:=q_ hl;clear ac af ho L hl)
 all_goals (
  go_end0;have bs:=V.o;have bk:S3<=C.heap.size:=by rw[<-J.o];exact G.o.size
  have aj:w.grownBy (setBlock C m (.map es clock)) v0.ownBlock:=by
   refine⟨G.o.os.trans (r.o.os.trans q.o.os),G.o.tape.trans (r.o.tape.trans q.o.tape),G.o.output.trans (r.o.output.trans q.o.output),by show w.heap.size<=(setBlock C m _).heap.size;simp[setBlock];omega,λi hi bh=>?_⟩;by_cases ad:i=m
   ·subst ad;rw[heap_setBlock_same I.o];exact (av.o.symm.trans (q.o.block i hi))
   ·rw[heap_setBlock_other I.o _ ad,G.o.block i (by rw[J.o];omega) bh,r.o.block i (by rw[a8.o];omega) ad];exact q.o.block i hi
  have a4:(setBlock C m (.map es clock)).ownsInts f 3 QU (QQ (QJ ⟨g,0,QY⟩) (ln+1) cp) (zs++[(x:Int)]):=by
   refine⟨?_,λy hy=>?_⟩
   ·have h1:=b9.o;rw[<-aa.o]at h1 ⊢;rw[List.length_append,List.map_append];refine Turn.owns (S:=λb=>b=m) (w:=C) ⟨rfl,rfl,rfl,by simp[setBlock],λi _ hi=>heap_setBlock_other I.o _ hi⟩ h1 λk hk h=>?_;have:=(h1.lt k hk).1;omega
   ·rcases List.mem_append.1 hy with hy | hy
    ·exact a6.o.2 y hy
    ·simp at hy;subst hy;simp[Lit.wf,IntKind.min,IntKind.max,IntKind.signed,IntKind.bits];omega
  obtain⟨w5,ak,aw,_⟩:=b4.o _ _ _ aj a4 (by rw[List.length_append];simp;have:=bb.o;omega) (by
   rcases b5.o with e | e
   ·exact .inl e.symm
   ·exact .inr ⟨g,rfl,by rw[e];omega⟩)
  have bj:w5=setBlock C m (.map ao N):=by have h1:=b7.o (setBlock C m (.map es clock)) (heap_setBlock_same I.o _);rw[ak]at h1;injection h1 with _ h1;rw[h1,r9_]
  subst bj;obtain⟨O,a5,M⟩:=b3.o;refine⟨rfl,⟨_,aw,λa' d' Z a2=>?_⟩,?_⟩
  ·unfold dv_;by_cases hc:a'=a/\d'=d
   ·obtain⟨rfl,rfl⟩:=hc;rw[if_pos ⟨rfl,rfl⟩,atKey_put_same M (K9_.key (ox_ Z a2)),sq_ a4];have h1:=O a' d' Z a2;rw[a5,sq_ a6.o]at h1;unfold Om_ at h1 ⊢;unfold Go.ChangeShapes.lits at h1 ⊢;rw[List.map_append,List.map_append,List.map_append,h1];rfl
   ·rw[if_neg hc,atKey_put_other (λh=>hc (H2_ Z a2 aq.o.1 aq.o.2 h))];exact O a' d' Z a2
  ·exact (((Turn.of_below q.o).mono (S':=λb=>b=m\/(f<=b/\f0_ w b)) (λi _ h=>.inr ⟨by omega,xv_ h⟩)).andThen r.o (λi _ h=>.inl h)).trans
     (((Turn.of_grown G.o).mono (S':=λb=>b=m\/(f<=b/\f0_ w b)) (λi _ h=>.inr ⟨(am.o i h.symm).1,xw_ a6.o.1 h.symm⟩)).trans ⟨rfl,rfl,rfl,by simp[setBlock],λi _ hi=>heap_setBlock_other I.o _ (λe=>hi (.inl e))⟩))
end
section
open Go Go.RowKit Go.Maps Go.WideMaps
def Y_ {α K:Type} (ok:List K -> α -> Bool) (key:α -> K):List K->List α -> Bool
 | _,[]=>true
 | ks,x::r=>ok ks x&&Y_ ok key (ks++[key x]) r
section
variable {α K:Type} {ok:List K -> α -> Bool} {key:α -> K}
theorem Eg_ (l:List α):∀(k:Nat) (ks:List K),Y_ ok key ks l=(Y_ ok key ks (l.take k)&&Y_ ok key (ks++(l.take k).map key) (l.drop k)):=by
 induction l with
 | nil=>intro k ks;simp[Y_]
 | cons p r d=>
  intro k ks
  cases k with
  | zero=>simp[Y_]
  | succ k=>
   simp only[List.take_succ_cons,List.drop_succ_cons,Y_,List.map_cons];rw[d k (ks++[key p])];simp only[Bool.and_assoc,List.append_assoc,List.singleton_append]
theorem Ef_ (l:List α) (p:α):∀ks:List K,Y_ ok key ks (l++[p])=(Y_ ok key ks l&&ok (ks++l.map key) p):=by
 induction l with
 | nil=>intro ks;simp[Y_]
 | cons q r d=>
  intro ks;simp only[List.cons_append,Y_,List.map_cons,d,Bool.and_assoc,List.append_assoc];simp
theorem l6_ {l:List α} {k:Nat} {x:α} (d:l[k]?=QJ x) (h:ok ((l.take k).map key) x=false):Y_ ok key [] l=false:=by rw[Eg_ l k [],m6_ d,Y_,List.nil_append,h];simp
theorem l7_ {l:List α} {k:Nat} {x:α} (f:l[k]?=QJ x) (h:ok ((l.take k).map key) x=true) (d:Y_ ok key [] (l.take k)=true):Y_ ok key [] (l.take (k+1))=true:=by rw[f_ f,Ef_,d,List.nil_append,h];rfl
theorem x2_ {l:List α} (h:Y_ ok key [] l=true) {k:Nat} {x:α} (d:l[k]?=QJ x):ok ((l.take k).map key) x=true:=by
 cases hok:ok ((l.take k).map key) x with
 | true=>rfl
 | false=>rw[l6_ d hok]at h;cases h
end
def okN (ids:List Int) (n:h_):Bool:=decide (0<=n.id)&&(!inB ids n.id&&(a7_ [] n.labels&&(decide (n.labels.length<=65536)&&as_ n.props)))
def okE (ns:List Int) (ids:List Int) (e:l_):Bool:=decide (0<=e.id)&&(!inB ids e.id&&(inB ns e.src&&(inB ns e.dst&&(al_ e.type&&as_ e.props))))
def c8_ (g:w_):Bool:=decide (g.nodes.length<=131072/\g.edges.length<=65536)&&(Y_ okN h_.id [] g.nodes&&Y_ (okE (g.nodes.map h_.id)) l_.id [] g.edges)
def bz_ {α d : Type} (R:α -> d -> Prop) (l:List α) (m:List d):Prop:=l.length=m.length/\∀(i:Nat) (x:α) (y:d),l[i]?=QJ x->m[i]?=QJ y->R x y
theorem bz_.nil {α d : Type} (R:α -> d -> Prop):bz_ R ([]:List α) []:=⟨rfl,λi x y h=>by simp at h⟩
theorem bz_.snoc {α f : Type} {R:α -> f -> Prop} {l:List α} {m:List f} {x:α} {y:f} (h:bz_ R l m) (g:R x y):bz_ R (l++[x]) (m++[y]):=by
 refine⟨by simp[h.1],λi a b d hb=>?_⟩;rcases Nat.lt_or_ge i l.length with hi | hi
 ·rw[List.getElem?_append_left hi]at d;rw[List.getElem?_append_left (by rw[<-h.1];exact hi)]at hb;exact h.2 i a b d hb
 ·rw[List.getElem?_append_right hi]at d;rw[List.getElem?_append_right (by rw[<-h.1];exact hi),<-h.1]at hb;have h0:i-l.length=0:=by have:=b7_ d;simp at this;omega
  rw[h0]at d hb;simp at d hb;subst d hb;exact g
def N9_ (l d:List h_):Prop:=∃m,bz_ jt_ l m/\d.Perm m/\d.Pairwise (λa b=>¬d1_ b.id a.id<0)
def N8_ (l d:List l_):Prop:=∃m,bz_ j6_ l m/\d.Perm m/\d.Pairwise (λa b=>¬d1_ b.id a.id<0)
def hx_ (g d:w_):Prop:=N9_ g.nodes d.nodes/\N8_ g.edges d.edges
def K0_ (e:l_) (a d:Int):Bool:=(d==1&&e.src==a) || ((d == -1&&e.dst==a) || (d==0&&(e.src==a || e.dst==a)))
def em_ (es:List l_) (a d:Int):List Nat:=(List.range es.length).filter λi=>(es[i]?.map λe=>K0_ e a d).getD false
theorem Db_ (es:List l_) (e:l_) (a d:Int):em_ (es++[e]) a d=em_ es a d++(if K0_ e a d then [es.length] else []):=by
 unfold em_;rw[List.length_append,List.length_singleton,List.range_succ,List.filter_append];congr 1
 ·apply List.filter_congr;intro i hi;rw[List.getElem?_append_left (List.mem_range.1 hi)]
 ·simp[List.filter_cons]
def a2_ (w:QV) (m:Nat) (ids:List Int):Prop:=∃D:DataW Unit,w.ownsMap QW 2 (plainElem QW 3) m ids.length D/\IdsOf VI iq_ D ids
theorem a2_.turn {w w':QV} {m:Nat} {ids:List Int} {S:Nat->Prop} (h:a2_ w m ids) (ht:Turn S w w') (d:¬S m):a2_ w' m ids:=by obtain⟨D,h1,h2⟩:=h;exact⟨D,ht.map h1 d,h2⟩
theorem a2_.lt {w:QV} {m:Nat} {ids:List Int} (h:a2_ w m ids):m<w.heap.size:=by obtain⟨D,⟨es,clock,hb,_⟩,_⟩:=h;exact b_ hb
structure ch_ (w:QV) (lo p:Nat) (g:w_) (Ns Es:XZ) (mh mt ma mid n:Nat):Prop where
 blk:w.heap[p]?=QJ (XX #[Ns,Es,.map (QJ mh),.map (QJ mt),.map (QJ ma)] 143 (0,0))
 nodes:SlR 3 NoR w (λb=>lo<=b/\b<mid) g.nodes Ns
 edges:SlR 5 EdR w (λb=>lo<=b/\b<mid) g.edges Es
 types:a2_ w mt (g.edges.map l_.id)
 at_:a2_ w ma (g.nodes.map h_.id)
 hops:ds_ w mid mh n (em_ g.edges)
 loc:lo<=p/\lo<=mh/\lo<=mt/\lo<=ma/\mid<=w.heap.size/\mh<mid
 few:n<=1000000
def ee_ (w:QV) (lo p:Nat) (g:w_):Prop:=∃Ns Es f h d mid n,ch_ w lo p g Ns Es f h d mid n
theorem ch_.turn {w w':QV} {lo p:Nat} {g:w_} {Ns Es:XZ} {o q j mid n:Nat} {S:Nat->Prop} (h:ch_ w lo p g Ns Es o q j mid n) (ht:Turn S w w') (d:∀b,lo<=b->b<w.heap.size->¬S b):ch_ w' lo p g Ns Es o q j mid n:=by
 have r:=b_ h.blk;obtain⟨v,x,y,B,G,I⟩:=h.loc;have C:=h.hops
 refine⟨(ht.block p r (d p v r)).trans h.blk,h.nodes.turn NoR.good ht (λb hb=>by omega) (λb hb=>d b hb.1 (by omega)),h.edges.turn EdR.good ht (λb hb=>by omega) (λb hb=>d b hb.1 (by omega)),
  h.types.turn ht (d q y h.types.lt),h.at_.turn ht (d j B h.at_.lt),?_,⟨v,x,y,B,YK G ht.size,I⟩,h.few⟩
 have u:Turn (λb=>S b/\b<w.heap.size) w w':=⟨ht.os,ht.tape,ht.output,ht.size,λi hi D=>ht.block i hi (λF=>D ⟨F,hi⟩)⟩;exact C.turn u (λf=>d o x f.2 f.1) (λb hb f=>d b (by omega) f.2 f.1)
theorem ee_.turn {w w':QV} {lo p:Nat} {g:w_} {S:Nat->Prop} (h:ee_ w lo p g) (ht:Turn S w w') (d:∀b,lo<=b->b<w.heap.size->¬S b):ee_ w' lo p g:=by obtain⟨Ns,Es,j,o,f,mid,n,h⟩:=h;exact⟨Ns,Es,j,o,f,mid,n,h.turn ht d⟩
theorem ee_.below {w w':QV} {lo p:Nat} {g:w_} (h:ee_ w lo p g) (hb:XU w.heap.size w w'):ee_ w' lo p g:=h.turn (Turn.of_below hb) (λb _ h1 h2=>by omega)
def me_ (g:w_):Prop:=g.nodes.length<=2000000/\g.edges.length<=2000000/\(∀n,n∈g.nodes->rm_ n/\VI n.id)/\∀e,e∈g.edges->Mp_ e/\VI e.id/\VI e.src/\VI e.dst
def i9_ (g:w_) (w:QV) (e:Ending) (w':QV):Prop:=
 XU w.heap.size w w'/\((c8_ g=false/\e = XW (YY #[YX QY,QK QU 21])) \/
  (c8_ g=true/\∃p d,e = XW (YY #[YX (QJ ⟨p,0,QY⟩),QK QU 0])/\ee_ w' w.heap.size p d/\hx_ g d))
end
section
open Go Go.RowKit Go.Maps Go.WideMaps Go.MapKept
theorem wm_:(Tryz.prog.info? 72).map (λi=>(i.zero,i.size,i.bytes))=QJ (QJ (.agg #[QK QU 0,QQ QY 0 0,QQ QY 0 0]),3,56):=by kernel_rfl
theorem wl_:(Tryz.prog.info? 74).map (λi=>(i.zero,i.size,i.bytes))=QJ (QJ (.agg #[QK QU 0,QK QU 0,QK QU 0,QZ ⟨#[]⟩,QQ QY 0 0]),5,64):=by kernel_rfl
theorem ls_ {w:QV} {F:Nat->Prop} {l:List h_} {A:Option Addr} {n:Nat} (h:SRd 3 NoR w F l A n) {i:Nat} {x:h_} (B:l[i]?=QJ x) :
    ∃ad d g f j,A=QJ ad/\F ad.block/\NoR w F x #[QK QU x.id,QQ d x.labels.length g,QQ f x.props.length j]/\SRd 1 TxR w F x.labels d x.labels.length/\SRd 7 PaR w F x.props f x.props.length/\w.cell? (ad.add (i*3))=QJ (QK QU x.id) /\
     w.cell? ⟨(ad.add (i*3)).block,(ad.add (i*3)).off+1,QY⟩=QJ (QQ d x.labels.length g)/\w.cell? ⟨(ad.add (i*3)).block,(ad.add (i*3)).off+2,QY⟩=QJ (QQ f x.props.length j):=by
 obtain⟨ad,c,e,y,_,o,L,P,rfl,⟨d,g,rfl,h1,h2⟩,f,j,rfl,v,r⟩:=h.at_ B;have u:=o 0 (by omega);have p:=o 1 (by omega);have q:=o 2 (by omega);rw[<-add_of_add]at p q;exact⟨ad,d,g,f,j,e,y,⟨_,_,rfl,⟨d,g,rfl,h1,h2⟩,f,j,rfl,v,r⟩,h2,r,u,p,q⟩
theorem i8_ {w:QV} {F:Nat->Prop} {l:List l_} {A:Option Addr} {n:Nat} (h:SRd 5 EdR w F l A n) {i:Nat} {x:l_} (B:l[i]?=QJ x) :
    ∃ad d f,A=QJ ad/\F ad.block/\EdR w F x #[QK QU x.id,QK QU x.src,QK QU x.dst,QZ x.type,QQ d x.props.length f]/\SRd 7 PaR w F x.props d x.props.length/\w.cell? (ad.add (i*5))=QJ (QK QU x.id) /\
     w.cell? ⟨(ad.add (i*5)).block,(ad.add (i*5)).off+1,QY⟩=QJ (QK QU x.src)/\w.cell? ⟨(ad.add (i*5)).block,(ad.add (i*5)).off+2,QY⟩=QJ (QK QU x.dst) /\
     w.cell? ⟨(ad.add (i*5)).block,(ad.add (i*5)).off+3,QY⟩=QJ (QZ x.type)/\w.cell? ⟨(ad.add (i*5)).block,(ad.add (i*5)).off+4,QY⟩=QJ (QQ d x.props.length f):=by
 obtain⟨ad,c,e,y,_,g,P,rfl,d,f,rfl,v,r⟩:=h.at_ B;have u:=g 0 (by omega);have j:=g 1 (by omega);have o:=g 2 (by omega);have p:=g 3 (by omega);have q:=g 4 (by omega);rw[<-add_of_add]at j o p q;exact⟨ad,d,f,e,y,⟨_,rfl,d,f,rfl,v,r⟩,r,u,j,o,p,q⟩
structure fx_ (w:QV) (z:Nat) (NV EV:XZ) (l:List h_) (ids:List Int) (k:Nat) (ns:List h_) (Ns:XZ) (wr:QV):Prop where
 below:XU z w wr
 box:wr.heap[z]?=QJ (XX #[NV,EV] 54 (0,0))
 m1:wr.heap[z+1]?=QJ (.map #[] 0)
 m2:wr.heap[z+2]?=QJ (.map #[] 0)
 m3:wr.heap[z+3]?=QJ (.map #[] 0)
 store:wr.heap[z+4]?=QJ (XX #[Ns,QQ QY 0 0,.map (QJ (z+1)),.map (QJ (z+2)),.map (QJ (z+3))] 143 (0,0))
 set:a9_ 2 VI iq_ wr (z+5) ids
 own:D_ 72 3 NoR wr (λb=>z+6<=b/\b<wr.heap.size) ns Ns
 all:bz_ jt_ (l.take k) ns
 ok:Y_ okN h_.id [] (l.take k)=true
theorem fx_.on {w:QV} {z:Nat} {g f:XZ} {l:List h_} {ids:List Int} {k:Nat} {ns:List h_} {Ns:XZ} {wr w2:QV} (h:fx_ w z g f l ids k ns Ns wr) (hb:XU wr.heap.size wr w2):fx_ w z g f l ids k ns Ns w2:=by
 have hz:z+5<wr.heap.size:=h.set.lt
 exact⟨h.below.trans (hb.mono (by omega)),(hb.block _ (by omega)).trans h.box,(hb.block _ (by omega)).trans h.m1,(hb.block _ (by omega)).trans h.m2,(hb.block _ (by omega)).trans h.m3,(hb.block _ (by omega)).trans h.store,h.set.below hb,
  (h.own.turn NoR.good (Turn.of_below hb) (λb hb=>hb.2) (λb hb h=>by omega)).mono NoR.good (λb d=>⟨d.1,XY d.2 hb.size⟩),h.all,h.ok⟩
theorem fx_.put {w:QV} {z:Nat} {g f:XZ} {l:List h_} {ids ids':List Int} {k:Nat} {ns:List h_} {Ns:XZ} {wr w2:QV} (h:fx_ w z g f l ids k ns Ns wr) (ht:Turn (λb=>b=z+5) wr w2) (j:a9_ 2 VI iq_ w2 (z+5) ids'):fx_ w z g f l ids' k ns Ns w2:=by
 have hz:z+5<wr.heap.size:=h.set.lt
 exact⟨h.below.trans (ht.below (B:=z) (λi _ hi=>by omega) (by omega)),(ht.block _ (by omega) (by omega)).trans h.box,(ht.block _ (by omega) (by omega)).trans h.m1,(ht.block _ (by omega) (by omega)).trans h.m2,(ht.block _ (by omega) (by omega)).trans h.m3,(ht.block _ (by omega) (by omega)).trans h.store,j,
  (h.own.turn NoR.good ht (λb hb=>hb.2) (λb hb h=>by omega)).mono NoR.good (λb d=>⟨d.1,XY d.2 ht.size⟩),h.all,h.ok⟩
theorem Nh_ {g:w_} (h:Y_ okN h_.id [] g.nodes=false):c8_ g=false:=by unfold c8_;rw[h];simp
theorem l5_ {v:g_} (h:O_ v=true):v.list=[]:=by
 unfold O_ at h;rw[YJ]at h;obtain⟨h1,h2⟩:=h;obtain⟨k,b,n,t,x,l⟩:=v;simp only[g_.kind,Bool.or_eq_true,beq_iff_eq]at h2;simp only[g_.list];have g:k≠5:=by rcases h2 with h | h | h | h<;>omega
 unfold z_ at h1
 have d:∀{f:Bool} {n':Int} {t' x':ByteArray},aw_ k b n t x l f n' t' x'=true->l=[]:=λh=>by
  unfold aw_ at h;simp only[YJ,Bool.or_eq_true,decide_eq_true_eq]at h;rcases h.2.2.2.2 with h | h
  ·exact List.eq_nil_of_length_eq_zero h
  ·exact absurd h g
 rcases h2 with rfl | rfl | rfl | rfl
 ·simp at h1;exact d h1
 ·simp at h1;exact d h1
 ·simp at h1;exact d h1.2
 ·simp at h1;exact d h1.2
theorem xf_ {v:g_} (h:a8_ v=true):∀x,x∈v.list->x.list=[]:=by
 unfold a8_ at h;by_cases f:v.kind=5
 ·rw[if_pos f,YJ,List.all_eq_true]at h;exact λx d=>l5_ (h.2 x d)
 ·rw[if_neg f]at h;rw[l5_ h];intro x d;cases d
theorem xj_ {l:List G_}:∀{ks:List ByteArray},a1_ ks l=true->∀p,p∈l->vi_ p:=by
 induction l with
 | nil=>intro ks _ p d;cases d
 | cons q r f=>
  intro ks h p d;simp only[a1_,YJ]at h;rcases List.mem_cons.1 d with rfl | d
  ·exact xf_ h.1.2.2
  ·exact f h.2 p d
theorem f7_ {l:List G_} (h:as_ l=true):∀p,p∈l->vi_ p:=by unfold as_ at h;rw[YJ]at h;exact xj_ h.1
theorem Lu_ (w:QV) (d f g h j o:Obj):(((((((w.alloc d).alloc f).alloc g).alloc h).alloc j).alloc o).heap=w.heap++#[d,f,g,h,j,o]):=by simp only[Go.Sort.alloc_eq_grow,Go.Sort.grow_grow];rfl
theorem g3_ {h:Array Obj} {os:Array Obj} {z i:Nat} {o:Obj} (hz:h.size=z) (d:os[i]?=QJ o):(h++os)[z+i]?=QJ o:=by subst hz;rw[Array.getElem?_append_right (Nat.le_add_right _ _),Nat.add_sub_cancel_left];exact d
theorem Eu_ (w:QV) (d f g:Obj):(((w.alloc d).alloc f).alloc g).heap=w.heap++#[d,f,g]:=by simp only[Go.Sort.alloc_eq_grow,Go.Sort.grow_grow];rfl
theorem Lq_ {K:Type} [DecidableEq K] {f:TypeId} {V:K->Prop} {d:K->Lit} {w:QV} {m:Nat} (h:w.heap[m]?=QJ (.map #[] 0)):a9_ f V d w m ([]:List K):=
 ⟨.map [],⟨#[],0,h,⟨by simp,stamped_empty 0,by simp⟩,XJ _,rfl⟩,λ_ _=>rfl⟩
theorem Ha_ {w w':QV} {z:Nat} (h:aa_ w) (hz:w.heap.size=z) (hb:XU z w w'):aa_ w':=k_ h (by rw[hz];exact hb)
theorem fx_.more {w:QV} {z:Nat} {J I:XZ} {l:List h_} {ids:List Int} {k:Nat} {ns:List h_} {A3:Option Addr} {c3:Nat} {w5 w6 w7:QV} {cs:Nat->Array XZ} {x n':h_} {c:Array XZ} {g7 c7:Nat}
    (h:fx_ w z J I l ids k ns (QQ A3 k c3) w5) (q:ns.length=k) (j:∀b,(Value.slice A3 k c3).ownBlock=QJ b->z+6<=b/\b<w5.heap.size) (L:∀i,i<k->(cs i).size=3) (W:∀i x,ns[i]?=QJ x->NoR w5 (λb=>(z+6<=b/\b<w5.heap.size)/\(Value.slice A3 k c3).ownBlock≠QJ b) x (cs i))
    (d:l[k]?=QJ x) (o:XU w5.heap.size w5 w6) (D:jt_ x n') (N:NoR w6 (λb=>w5.heap.size<=b/\b<w6.heap.size) n' c) (U:c.size=3) (r:w6.grownBy w7 (Value.slice A3 k c3).ownBlock) (C:(Value.slice A3 k c3).ownBlock=QJ g7\/g7=w6.heap.size+1)
    (O:w7.ownsRow 0 72 3 (QQ (QJ ⟨g7,0,QY⟩) (k+1) c7) (k+1) (T_ cs k++c.toList)) (T:Y_ okN h_.id [] (l.take (k+1))=true) :
    fx_ w z J I l ids (k+1) (ns++[n']) (QQ (QJ ⟨g7,0,QY⟩) (k+1) c7) (w7.setCell ⟨z+4,0,QY⟩ (QQ (QJ ⟨g7,0,QY⟩) (k+1) c7)):=by
 have hz:z+5<w5.heap.size:=h.set.lt;have Z:w5.heap.size<=w6.heap.size:=o.size;have a0:w6.heap.size<=w7.heap.size:=r.size;have Y:g7<w7.heap.size:=(O.lt g7 rfl).2;have g:=h.on o
 have u:=it_ (w5:=w6) (w6:=w7) (R:=NoR) (E:=72) (sz:=3) (F:=λb=>z+6<=b/\b<w5.heap.size) (G:=λb=>w5.heap.size<=b/\b<w6.heap.size) (l:=ns) (x:=n') (s:=QQ A3 k c3) (c:=c) (g4:=g7) (c4:=c7) (cs:=cs) NoR.good
  (λi hi=>L i (by omega)) (λi y X=>NoR.good.keep (W i y X) (λp V=>o.cell (by have:=V.1.2;omega))) N U (λb hb e=>by have:=(j b e).2;have:=hb.1;omega) (λb hb=>by have:=hb.2;omega) (λb hb=>hb.2) (by rw[q];exact O) r (by rcases C with e | e;exact .inl e;exact .inr (by omega))
 rw[q]at u
 have v:Turn (λb=>QJ b=(Value.slice A3 k c3).ownBlock\/b=z+4) w6 (w7.setCell ⟨z+4,0,QY⟩ (QQ (QJ ⟨g7,0,QY⟩) (k+1) c7)):=
  ((Turn.of_grown r).mono (λb _ hb=>.inl hb)).trans (((Turn.refl (λb=>b=z+4) w7).setCell (p:=⟨z+4,0,QY⟩) (.inr rfl) _).mono (λb _ hb=>.inr hb))
 have f:∀b,b<z+6->b≠z+4->(w7.setCell ⟨z+4,0,QY⟩ (QQ (QJ ⟨g7,0,QY⟩) (k+1) c7)).heap[b]?=w6.heap[b]?:=λb hb M=>v.block b (by omega) (λd=>by
  rcases d with d | d
  ·have:=(j b d.symm).1;omega
  ·exact M d)
 refine⟨g.below.trans (v.below (B:=z) (λi _ hi=>?_) (by omega)),(f _ (by omega) (by omega)).trans g.box,(f _ (by omega) (by omega)).trans g.m1,(f _ (by omega) (by omega)).trans g.m2,(f _ (by omega) (by omega)).trans g.m3,?_,g.set.turn v (λd=>?_),?_,?_,T⟩
 ·rcases hi with hi | hi
  ·have:=(j i hi.symm).1;omega
  ·omega
 ·exact heap_setCell_same w7 (z+4) 0 _ _ _ ((r.block (z+4) (by omega) (λe=>by have:=(j (z+4) e.symm).1;omega)).trans g.store)
 ·rcases d with d | d
  ·have:=(j (z+5) d.symm).1;omega
  ·omega
 ·refine (u.turn NoR.good ((Turn.refl (λb=>b=z+4) w7).setCell (p:=⟨z+4,0,QY⟩) (.inr rfl) _) (λb hb=>?_) (λb hb e=>?_)).mono NoR.good λb hb=>?_
  ·rcases hb with hb | hb | hb
   ·omega
   ·omega
   ·omega
  ·rcases hb with hb | hb | hb
   ·omega
   ·omega
   ·rcases C with h1 | h1
    ·have:=(j g7 h1).1;omega
    ·omega
  ·show z+6<=b/\b<(w7.setCell _ _).heap.size;simp only[World.size_setCell];rcases hb with hb | hb | hb
   ·omega
   ·omega
   ·rcases C with h1 | h1
    ·have:=(j g7 h1).1;omega
    ·omega
 ·rw[f_ d];exact h.all.snoc D
structure fy_ (w:QV) (z z2:Nat) (nids:List Int) (NS:List h_) (Ns:XZ) (l:List l_) (ids:List Int) (k:Nat) (es:List l_) (Es:XZ) (wr:QV):Prop where
 below:XU z w wr
 m1:wr.heap[z+1]?=QJ (.map #[] 0)
 m2:wr.heap[z+2]?=QJ (.map #[] 0)
 m3:wr.heap[z+3]?=QJ (.map #[] 0)
 store:wr.heap[z+4]?=QJ (XX #[Ns,Es,.map (QJ (z+1)),.map (QJ (z+2)),.map (QJ (z+3))] 143 (0,0))
 nset:a9_ 2 VI iq_ wr (z+5) nids
 set:a9_ 2 VI iq_ wr z2 ids
 far:z+6<=z2
 nodes:D_ 72 3 NoR wr (λb=>z+6<=b/\b<z2) NS Ns
 own:D_ 74 5 EdR wr (λb=>z2+1<=b/\b<wr.heap.size) es Es
 all:bz_ j6_ (l.take k) es
 ok:Y_ (okE nids) l_.id [] (l.take k)=true
section
variable {w:QV} {z z2:Nat} {nids:List Int} {NS:List h_} {Ns:XZ} {l:List l_} {ids ids':List Int} {k:Nat} {es:List l_} {Es:XZ} {wr w2:QV}
theorem fy_.on (h:fy_ w z z2 nids NS Ns l ids k es Es wr) (hb:XU wr.heap.size wr w2):fy_ w z z2 nids NS Ns l ids k es Es w2:=by
 have hz:z2<wr.heap.size:=h.set.lt;have f:=h.far
 exact⟨h.below.trans (hb.mono (by omega)),(hb.block _ (by omega)).trans h.m1,(hb.block _ (by omega)).trans h.m2,(hb.block _ (by omega)).trans h.m3,(hb.block _ (by omega)).trans h.store,h.nset.below hb,h.set.below hb,f,
  h.nodes.turn NoR.good (Turn.of_below hb) (λb hb=>by omega) (λb hb h=>by omega),
  (h.own.turn EdR.good (Turn.of_below hb) (λb hb=>hb.2) (λb hb h=>by omega)).mono EdR.good (λb d=>⟨d.1,XY d.2 hb.size⟩),h.all,h.ok⟩
theorem fy_.put (h:fy_ w z z2 nids NS Ns l ids k es Es wr) (ht:Turn (λb=>b=z2) wr w2) (g:a9_ 2 VI iq_ w2 z2 ids'):fy_ w z z2 nids NS Ns l ids' k es Es w2:=by
 have hz:z2<wr.heap.size:=h.set.lt;have f:=h.far
 exact⟨h.below.trans (ht.below (B:=z) (λi _ hi=>by omega) (by omega)),(ht.block _ (by omega) (by omega)).trans h.m1,(ht.block _ (by omega) (by omega)).trans h.m2,(ht.block _ (by omega) (by omega)).trans h.m3,(ht.block _ (by omega) (by omega)).trans h.store,h.nset.turn ht (by omega),g,f,
  h.nodes.turn NoR.good ht (λb hb=>by omega) (λb hb h=>by omega),
  (h.own.turn EdR.good ht (λb hb=>hb.2) (λb hb h=>by omega)).mono EdR.good (λb d=>⟨d.1,XY d.2 ht.size⟩),h.all,h.ok⟩
end
theorem fy_.more {w:QV} {z z2:Nat} {nids:List Int} {NS:List h_} {Ns:XZ} {l:List l_} {ids:List Int} {k:Nat} {es:List l_} {A3:Option Addr} {c3:Nat} {w5 w6 w7:QV} {cs:Nat->Array XZ} {x n':l_} {c:Array XZ} {g7 c7:Nat}
    (h:fy_ w z z2 nids NS Ns l ids k es (QQ A3 k c3) w5) (u:es.length=k) (o:∀b,(Value.slice A3 k c3).ownBlock=QJ b->z2+1<=b/\b<w5.heap.size) (L:∀i,i<k->(cs i).size=5) (W:∀i x,es[i]?=QJ x->EdR w5 (λb=>(z2+1<=b/\b<w5.heap.size)/\(Value.slice A3 k c3).ownBlock≠QJ b) x (cs i))
    (j:l[k]?=QJ x) (r:XU w5.heap.size w5 w6) (J:j6_ x n') (M:EdR w6 (λb=>w5.heap.size<=b/\b<w6.heap.size) n' c) (T:c.size=5) (C:w6.grownBy w7 (Value.slice A3 k c3).ownBlock) (I:(Value.slice A3 k c3).ownBlock=QJ g7\/g7=w6.heap.size+1)
    (N:w7.ownsRow 0 74 5 (QQ (QJ ⟨g7,0,QY⟩) (k+1) c7) (k+1) (T_ cs k++c.toList)) (O:Y_ (okE nids) l_.id [] (l.take (k+1))=true) :
    fy_ w z z2 nids NS Ns l ids (k+1) (es++[n']) (QQ (QJ ⟨g7,0,QY⟩) (k+1) c7) (w7.setCell ⟨z+4,1,QY⟩ (QQ (QJ ⟨g7,0,QY⟩) (k+1) c7)):=by
 have hz:z2<w5.heap.size:=h.set.lt;have U:=h.far;have Z:w5.heap.size<=w6.heap.size:=r.size;have a0:w6.heap.size<=w7.heap.size:=C.size;have Y:g7<w7.heap.size:=(N.lt g7 rfl).2;have g:=h.on r
 have D:=it_ (w5:=w6) (w6:=w7) (R:=EdR) (E:=74) (sz:=5) (F:=λb=>z2+1<=b/\b<w5.heap.size) (G:=λb=>w5.heap.size<=b/\b<w6.heap.size) (l:=es) (x:=n') (s:=QQ A3 k c3) (c:=c) (g4:=g7) (c4:=c7) (cs:=cs) EdR.good
  (λi hi=>L i (by omega)) (λi y X=>EdR.good.keep (W i y X) (λp V=>r.cell (by have:=V.1.2;omega))) M T (λb hb e=>by have:=(o b e).2;have:=hb.1;omega) (λb hb=>by have:=hb.2;omega) (λb hb=>hb.2) (by rw[u];exact N) C (by rcases I with e | e;exact .inl e;exact .inr (by omega))
 rw[u]at D
 have q:Turn (λb=>QJ b=(Value.slice A3 k c3).ownBlock\/b=z+4) w6 (w7.setCell ⟨z+4,1,QY⟩ (QQ (QJ ⟨g7,0,QY⟩) (k+1) c7)):=
  ((Turn.of_grown C).mono (λb _ hb=>.inl hb)).trans (((Turn.refl (λb=>b=z+4) w7).setCell (p:=⟨z+4,1,QY⟩) (.inr rfl) _).mono (λb _ hb=>.inr hb))
 have f:∀b,b<z2+1->b≠z+4->¬(QJ b=(Value.slice A3 k c3).ownBlock\/b=z+4):=λb hb v j=>by
  rcases j with j | j
  ·have:=(o b j.symm).1;omega
  ·exact v j
 have d:∀b,b<z2+1->b≠z+4->(w7.setCell ⟨z+4,1,QY⟩ (QQ (QJ ⟨g7,0,QY⟩) (k+1) c7)).heap[b]?=w6.heap[b]?:=λb hb v=>q.block b (by omega) (f b hb v);refine⟨g.below.trans (q.below (B:=z) (λi _ hi=>?_) (by omega)),(d _ (by omega) (by omega)).trans g.m1,(d _ (by omega) (by omega)).trans g.m2,(d _ (by omega) (by omega)).trans g.m3,?_,g.nset.turn q (f _ (by omega) (by omega)),g.set.turn q (f _ (by omega) (by omega)),U,g.nodes.turn NoR.good q (λb hb=>by omega) (λb hb=>f b (by omega) (by omega)),?_,?_,O⟩
 ·rcases hi with hi | hi
  ·have:=(o i hi.symm).1;omega
  ·omega
 ·exact heap_setCell_same w7 (z+4) 1 _ _ _ ((C.block (z+4) (by omega) (λe=>by have:=(o (z+4) e.symm).1;omega)).trans g.store)
 ·refine (D.turn EdR.good ((Turn.refl (λb=>b=z+4) w7).setCell (p:=⟨z+4,1,QY⟩) (.inr rfl) _) (λb hb=>?_) (λb hb e=>?_)).mono EdR.good λb hb=>?_
  ·rcases hb with hb | hb | hb
   ·omega
   ·omega
   ·omega
  ·rcases hb with hb | hb | hb
   ·omega
   ·omega
   ·rcases I with h1 | h1
    ·have:=(o g7 h1).1;omega
    ·omega
  ·show z2+1<=b/\b<(w7.setCell _ _).heap.size;simp only[World.size_setCell];rcases hb with hb | hb | hb
   ·omega
   ·omega
   ·rcases I with h1 | h1
    ·have:=(o g7 h1).1;omega
    ·omega
 ·rw[f_ j];exact h.all.snoc J
theorem Lf_ {g:w_} (h:Y_ (okE (g.nodes.map h_.id)) l_.id [] g.edges=false):c8_ g=false:=by unfold c8_;rw[h];simp
theorem fx_.next {w:QV} {z:Nat} {f d:XZ} {l:List h_} {nids:List Int} {k:Nat} {ns:List h_} {Ns:XZ} {wr:QV} (h:fx_ w z f d l nids k ns Ns wr) (le:List l_) :
    fy_ w z wr.heap.size nids ns Ns le [] 0 [] (QQ QY 0 0) (wr.alloc (.map #[] 0)):=by
 have hz:z+5<wr.heap.size:=h.set.lt;have h2:=h.on ((XV wr.heap.size wr).alloc (XJ _) (.map #[] 0));exact⟨h2.below,h2.m1,h2.m2,h2.m3,h2.store,h2.set,a9_.made _ _ _ _,by omega,h.own.turn NoR.good (Turn.of_below ((XV wr.heap.size wr).alloc (XJ _) (.map #[] 0))) (λb hb=>hb.2) (λb hb h=>by omega),D_.nil ..,bz_.nil _,rfl⟩
theorem lv_ (a b:Int):(d1_ a b<0)=(a<b):=by
 unfold d1_;by_cases h1:a<b
 ·simp[h1]
 ·by_cases h2:b<a<;>simp[h1,h2]
structure ItN where
 n:h_
 A:Option Addr
 c:Nat
 B:Option Addr
 d:Nat
instance:Inhabited ItN:=⟨⟨⟨0,[],[]⟩,QY,0,QY,0⟩⟩
def Cx_ (x:ItN):List XZ:=[QK QU x.n.id,QQ x.A x.n.labels.length x.c,QQ x.B x.n.props.length x.d]
structure ItE where
 e:l_
 A:Option Addr
 c:Nat
instance:Inhabited ItE:=⟨⟨⟨0,0,0,⟨#[]⟩,[]⟩,QY,0⟩⟩
def Cw_ (x:ItE):List XZ:=[QK QU x.e.id,QK QU x.e.src,QK QU x.e.dst,QZ x.e.type,QQ x.A x.e.props.length x.c]
theorem F8_ (x y:ItN) (W:QV):Calls QW 95 #[.agg (Cx_ x).toArray,.agg (Cx_ y).toArray] W λe w'=>e = XW (QK QU (d1_ x.n.id y.n.id))/\∃q f,w'=Go.Sort.grow (W.drewN q) f:=by
 have d:=q_ (λg=>xb_ x.n.id y.n.id g);generalize d1_ x.n.id y.n.id=r at d ⊢;unfold Cx_;go_enter Tryz.func95,Tryz.ntmps95
 go_wp2_with fail;refine (d.o _).mono ?_;rintro e w' ⟨rfl,rfl⟩;go_wp2_with fail;go_ret;exact⟨rfl,0,_,by rw[Go.Sort.alloc_eq_grow,Go.Sort.alloc_eq_grow,Go.Sort.grow_grow];rfl⟩
theorem F6_ (x y:ItE) (W:QV):Calls QW 98 #[.agg (Cw_ x).toArray,.agg (Cw_ y).toArray] W λe w'=>e = XW (QK QU (d1_ x.e.id y.e.id))/\∃q f,w'=Go.Sort.grow (W.drewN q) f:=by
 have d:=q_ (λg=>xb_ x.e.id y.e.id g);generalize d1_ x.e.id y.e.id=r at d ⊢;unfold Cw_;go_enter Tryz.func98,Tryz.ntmps98
 go_wp2_with fail;refine (d.o _).mono ?_;rintro e w' ⟨rfl,rfl⟩;go_wp2_with fail;go_ret;exact⟨rfl,0,_,by rw[Go.Sort.alloc_eq_grow,Go.Sort.alloc_eq_grow,Go.Sort.grow_grow];rfl⟩
theorem Ot_ {I:Type} (d : I->Int):Go.Sort.SWO (ltOf λx y:I=>d1_ (d x) (d y)) where
 irrefl x:=by unfold ltOf;rw[decide_eq_false_iff_not,lv_];omega
 trans x y z h1 h2:=by unfold ltOf at *;rw [decide_eq_true_iff, lv_] at *;omega
 ntrans x y z h1 h2:=by unfold ltOf at *;rw [decide_eq_false_iff_not, lv_] at *;omega
theorem itN {w:QV} {F:Nat->Prop} {x:h_} {c:Array XZ} (h:NoR w F x c):∃d,Cx_ d=c.toList/\d.n=x:=by obtain⟨L,P,rfl,⟨A,f,rfl,_⟩,B,g,rfl,_⟩:=h;exact⟨⟨x,A,f,B,g⟩,rfl,rfl⟩
theorem itE {w:QV} {F:Nat->Prop} {x:l_} {c:Array XZ} (h:EdR w F x c):∃d,Cw_ d=c.toList/\d.e=x:=by obtain⟨P,rfl,A,f,rfl,_⟩:=h;exact⟨⟨x,A,f⟩,rfl,rfl⟩
def A2_ {α : Type} (sz:Nat) (R:bu_ α) (le:α -> α -> Prop) (F:Nat->Prop) (l:List α) (s:XZ) (w:QV) (e:Ending) (w':QV):Prop:=
 e = XW (YY #[])/\∃d:List α,(d.Perm l/\d.Pairwise le)/\SlR sz R w' F d s/\Turn (λb=>s.ownBlock=QJ b) w w'
def leN (a b:h_):Prop:=¬d1_ b.id a.id<0
def leE (a b:l_):Prop:=¬d1_ b.id a.id<0
theorem uk_ {w:QV} {F:Nat->Prop} {l:List h_} {s:XZ} (h:D_ 72 3 NoR w F l s) (d:l.length<=100000000) (o:∀b,F b->b<w.heap.size) :
    Calls QW 94 #[s,.func (.func 95) #[] #[]] w (A2_ 3 NoR leN F l s w):=
 (rd_ Tryz.sortN NoR.good (by decide) Tryz.isAgg72 Tryz.sizeOf72 Cx_ ItN.n (λ_=>rfl) (λx v f=>by simp[Cx_]at f;rcases f with rfl | rfl | rfl<;>rfl) itN (λa b=>d1_ a.id b.id) (Ot_ λx:ItN=>x.n.id) 95 (enters_of Tryz.func95 (by kernel_rfl) rfl) F8_ h d o).mono λ_ _ ⟨p,q,h1,h2,g,j⟩=>⟨p,q,⟨h1,h2⟩,g,j⟩
theorem Eh_ {w:QV} {F:Nat->Prop} {l:List l_} {s:XZ} (h:D_ 74 5 EdR w F l s) (d:l.length<=100000000) (o:∀b,F b->b<w.heap.size) :
    Calls QW 97 #[s,.func (.func 98) #[] #[]] w (A2_ 5 EdR leE F l s w):=
 (rd_ Tryz.sortE EdR.good (by decide) Tryz.isAgg74 Tryz.sizeOf74 Cw_ ItE.e (λ_=>rfl) (λx v f=>by simp[Cw_]at f;rcases f with rfl | rfl | rfl | rfl | rfl<;>rfl) itE (λa b=>d1_ a.id b.id) (Ot_ λx:ItE=>x.e.id) 98 (enters_of Tryz.func98 (by kernel_rfl) rfl) F6_ h d o).mono λ_ _ ⟨p,q,h1,h2,g,j⟩=>⟨p,q,⟨h1,h2⟩,g,j⟩
theorem hp_ {α : Type} {ok:List Int -> α -> Bool} {key:α -> Int} (f:∀ks x,ok ks x=true->key x∉ks) {l:List α}:∀{ks:List Int},ks.Nodup->Y_ ok key ks l=true->(ks++l.map key).Nodup:=by
 induction l with
 | nil=>intro ks d _;simpa using d
 | cons x r o=>
  intro ks d h;simp only[Y_,YJ]at h;have j:=f ks x h.1;have h2:=o (ks:=ks++[key x]) (by rw[List.nodup_append];refine⟨d,by simp,λa g b hb e=>?_⟩;simp at hb;subst hb;exact j (e▸g)) h.2;simpa using h2
theorem Br_ {ks:List Int} {x:h_} (h:okN ks x=true):x.id∉ks:=by unfold okN at h;simp only[YJ,Bool.not_eq_true']at h;intro d;rw[ci_ d]at h;simp at h
theorem Bq_ {ns ks:List Int} {x:l_} (h:okE ns ks x=true):x.id∉ks:=by unfold okE at h;simp only[YJ,Bool.not_eq_true']at h;intro d;rw[ci_ d]at h;simp at h
theorem k4_ {α j o : Type} {R:α -> j -> Prop} {f:α -> o} {g:j -> o} (h:∀x y,R x y->g y=f x) {l:List α} {m:List j} (d:bz_ R l m):m.map g=l.map f:=by
 apply List.ext_getElem?;intro i;rw[List.getElem?_map,List.getElem?_map]
 cases hx:l[i]? with
 | none=>
  have h2:m[i]?=QY:=by rw[List.getElem?_eq_none_iff]at hx ⊢;rw[<-d.1];exact hx
  rw[h2];rfl
 | some x=>
  have hi:=b7_ hx;have p:i<m.length:=by rw[<-d.1];exact hi
  have h2:=XQ p;rw[h2];simp[h x _ (d.2 i x _ hx h2)]
theorem l0_ {α : Type} {key:α -> Int} {l m:List α} (h:l.Perm m) (d:(m.map key).Nodup):(l.map key).Nodup:=(h.map key).nodup_iff.2 d
theorem rg_ {α : Type} {key:α -> Int} {l:List α} (f:(l.map key).Nodup) {k:Nat} {x:α} (o:l[k]?=QJ x):key x∉(l.take k).map key:=by
 intro h;obtain⟨y,p,j⟩:=List.mem_map.1 h;obtain⟨i,hi⟩:=List.mem_iff_getElem?.1 p;have d:i<k:=by have:=b7_ hi;rw[List.length_take]at this;omega
 rw[List.getElem?_take_of_lt d]at hi;obtain⟨h1,rfl⟩:=List.getElem?_eq_some_iff.1 hi;obtain⟨h2,rfl⟩:=List.getElem?_eq_some_iff.1 o;unfold List.Nodup at f;rw[List.pairwise_iff_getElem]at f;have g:=f i k (by rw[List.length_map];exact h1) (by rw[List.length_map];exact h2) d;rw[List.getElem_map,List.getElem_map]at g;exact g j
theorem bz_.mem {α d : Type} {R:α -> d -> Prop} {l:List α} {m:List d} (h:bz_ R l m) {y:d} (j:y∈m):∃x,x∈l/\R x y:=by
 obtain⟨i,hi⟩:=List.mem_iff_getElem?.1 j;have g:i<l.length:=by rw[h.1];exact b7_ hi
 have f:=XQ g;exact⟨_,YQ f,h.2 i _ y f hi⟩
theorem Es_ {g:w_} {ns NS:List h_} (j:me_ g) (o:Y_ okN h_.id [] g.nodes=true) (d:bz_ jt_ g.nodes ns) (p:NS.Perm ns):(NS.map h_.id).Nodup/\∀x,x∈NS->VI x.id:=by
 constructor
 ·refine l0_ p ?_;rw[k4_ (R:=jt_) (f:=h_.id) (g:=h_.id) (λx y h=>h.1) d];exact hp_ (λks x h=>Br_ h) List.nodup_nil o
 ·intro x r;obtain⟨y,u,q⟩:=d.mem (p.mem_iff.1 r);rw[q.1];exact (j.2.2.1 y u).2
theorem Er_ {g:w_} {es ES:List l_} (j:me_ g) (p:Y_ (okE (g.nodes.map h_.id)) l_.id [] g.edges=true) (d:bz_ j6_ g.edges es) (q:ES.Perm es):(ES.map l_.id).Nodup/\∀x,x∈ES->VI x.id/\VI x.src/\VI x.dst:=by
 constructor
 ·refine l0_ q ?_;rw[k4_ (R:=j6_) (f:=l_.id) (g:=l_.id) (λx y h=>h.1) d];exact hp_ (λks x h=>Bq_ h) List.nodup_nil p
 ·intro x r;obtain⟨y,u,o⟩:=d.mem (q.mem_iff.1 r);rw[o.1,o.2.1,o.2.2.1];exact (j.2.2.2 y u).2
theorem SlR.rd {α : Type} {R:bu_ α} {w:QV} {F:Nat->Prop} {l:List α} {sz n c:Nat} {A:Option Addr} (h:SlR sz R w F l (QQ A n c)):SRd sz R w F l A n:=by obtain⟨A',f,e,_,d⟩:=h;injection e with h1 h2 h3;subst h1 h2;exact d
theorem a2_.more {w:QV} {m:Nat} {ids:List Int} (h:a2_ w m ids) {x:Int} (p:VI x) (g:x∉ids) (r:ids.length<=100000000) :
    ∃w',(Instr.mapUpdate 141 (.map (QJ m)) (QK QU x) (QK QU ((ids.length:Nat):Int))).run QW w = .ok () w'/\a2_ w' m (ids++[x])/\Turn (λb=>b=m) w w':=by
 obtain⟨D,h1,h2⟩:=h;have f:keyOf QW 2 (.int .i64 x)=QJ (iq_ x):=keyOf_int_mk Tryz.underlying2 p;obtain⟨w',o,j,d⟩:=h1.store uq_ Tryz.underlying141 (by unfold maxLen;omega) f (plainElem_int (P:=QW) (e:=3) (q:=.i64) Tryz.underlying3 (a:=((ids.length:Nat):Int)) (by simp[Lit.wf,IntKind.min,IntKind.max,IntKind.signed,IntKind.bits];omega));refine⟨w',o,⟨_,?_,ids_put ww_ wx_ h2 p g⟩,(Turn.of_grown d.grown).mono (λi _ h=>by injection h)⟩;rw[List.length_append,List.length_singleton];exact j
theorem a2_.fresh {w:QV} {m:Nat} (h:w.heap[m]?=QJ (.map #[] 0)):a2_ w m []:=
 ⟨.map [],⟨#[],0,h,⟨by simp,stamped_empty 0,by simp⟩,XJ _,rfl⟩,ids_empty⟩
theorem ds_.fresh {w:QV} {m f:Nat} (h:w.heap[m]?=QJ (.map #[] 0)) (hb:m<f):ds_ w f m 0 (em_ []):=
 ⟨.map [],⟨#[],0,h,⟨by simp,stamped_empty 0,by simp⟩,XJ _,rfl,hb,by simp,by simp⟩,λa d _ _=>rfl⟩
structure d2_ (w:QV) (z mid:Nat) (NS:List h_) (ES:List l_) (Ns Es:XZ) (ids eids:List Int) (n:Nat) (H:Int->Int->List Nat) (wr:QV):Prop where
 below:XU z w wr
 store:wr.heap[z+4]?=QJ (XX #[Ns,Es,.map (QJ (z+1)),.map (QJ (z+2)),.map (QJ (z+3))] 143 (0,0))
 nodes:SlR 3 NoR wr (λb=>z+6<=b/\b<mid) NS Ns
 edges:SlR 5 EdR wr (λb=>z+6<=b/\b<mid) ES Es
 at_:a2_ wr (z+3) ids
 types:a2_ wr (z+2) eids
 hops:ds_ wr mid (z+1) n H
 loc:z+6<=mid/\mid<=wr.heap.size
section
variable {w:QV} {z mid:Nat} {NS:List h_} {ES:List l_} {Ns Es:XZ} {ids eids ids' eids':List Int} {n n':Nat} {H H':Int->Int->List Nat} {wr w2:QV}
theorem d2_.upd (h:d2_ w z mid NS ES Ns Es ids eids n H wr) {S:Nat->Prop} (ht:Turn S wr w2) (f:∀b,S b->(z<=b/\b<z+4)\/mid<=b) (h1:a2_ w2 (z+3) ids') (h2:a2_ w2 (z+2) eids') (g:ds_ w2 mid (z+1) n' H'):d2_ w z mid NS ES Ns Es ids' eids' n' H' w2:=by
 obtain⟨o,p⟩:=h.loc
 have d:∀b,z+4<=b->b<mid->¬S b:=λb h1 h2 j=>by
  rcases f b j with h | h<;>omega
 exact⟨h.below.trans (ht.below (B:=z) (λi _ hi=>by rcases f i hi with h | h<;>omega) (by omega)),(ht.block _ (by omega) (d _ (by omega) (by omega))).trans h.store,h.nodes.turn NoR.good ht (λb hb=>by omega) (λb hb=>d b (by omega) hb.2),h.edges.turn EdR.good ht (λb hb=>by omega) (λb hb=>d b (by omega) hb.2),h1,h2,g,⟨o,YK p ht.size⟩⟩
theorem d2_.on (h:d2_ w z mid NS ES Ns Es ids eids n H wr) (hb:XU wr.heap.size wr w2):d2_ w z mid NS ES Ns Es ids eids n H w2:=by have l:=h.loc;have ht:Turn (λb=>wr.heap.size<=b) wr w2:=Turn.of_below hb;have d:Turn (λ_=>False) wr w2:=⟨ht.os,ht.tape,ht.output,ht.size,λi hi _=>ht.block i hi (by omega)⟩;exact h.upd ht (λb hb=>.inr (by omega)) (h.at_.turn d id) (h.types.turn d id) (h.hops.turn d id (λ_ _=>id))
theorem d2_.done (h:d2_ w z mid NS ES Ns Es (NS.map h_.id) (ES.map l_.id) n (em_ ES) wr) (d:n<=1000000):ee_ wr z (z+4) ⟨NS,ES⟩:=by obtain⟨f,g⟩:=h.loc;exact⟨Ns,Es,z+1,z+2,z+3,mid,n,h.store,h.nodes.mono NoR.good (λb hb=>⟨by omega,hb.2⟩),h.edges.mono EdR.good (λb hb=>⟨by omega,hb.2⟩),h.types,h.at_,h.hops,by omega,d⟩
theorem w8_ {w:QV} {b:Nat} {cs:Array XZ} {f:Nat×Nat} (h:w.heap[b]?=QJ (XX cs 74 f)):¬f0_ w b:=λd=>absurd (d _ _ _ h) (by decide)
theorem pt_ {j p:QV} {g q mid:Nat} {cs:Array XZ} {f:Nat×Nat} (h:j.heap[g]?=QJ (XX cs 74 f)) (o:g≠q) (ht:Turn (λb=>b=q\/(mid<=b/\f0_ j b)) j p):p.heap[g]?=QJ (XX cs 74 f):=
 (ht.block g (b_ h) (λd=>by
  rcases d with d | d
  ·exact o d
  ·exact w8_ h d.2)).trans h
theorem vi1:VI 1:=by unfold VI;decide
theorem vi0:VI 0:=by unfold VI;decide
theorem vim:VI (-1):=by unfold VI;decide
theorem d2_.spoke (h:d2_ w z mid NS ES Ns Es ids eids n H wr) (f:ds_ w2 mid (z+1) n' H') (ht:Turn (λb=>b=z+1\/(mid<=b/\f0_ wr b)) wr w2):d2_ w z mid NS ES Ns Es ids eids n' H' w2:=by
 have l:=h.loc;refine h.upd ht (λb hb=>?_) (h.at_.turn ht (λd=>?_)) (h.types.turn ht (λd=>?_)) f
 ·rcases hb with hb | hb
  ·exact .inl ⟨by omega,by omega⟩
  ·exact .inr hb.1
 ·rcases d with d | d
  ·omega
  ·have:=d.1;omega
 ·rcases d with d | d
  ·omega
  ·have:=d.1;omega
theorem fy_.next {z2:Nat} {nids:List Int} {ns NS:List h_} {l es ES:List l_} {ids:List Int} {k:Nat} {g w5:QV} (h:fy_ w z z2 nids ns Ns l ids k es Es wr)
    (v:SlR 3 NoR g (λb=>z+6<=b/\b<z2) NS Ns) (p:Turn (λb=>Ns.ownBlock=QJ b) wr g) (u:SlR 5 EdR w5 (λb=>z2+1<=b/\b<g.heap.size) ES Es) (f:Turn (λb=>Es.ownBlock=QJ b) g w5) :
    d2_ w z w5.heap.size NS ES Ns Es [] [] 0 (em_ []) w5:=by
 have hz:z2<wr.heap.size:=h.set.lt;have C:=h.far;have x:wr.heap.size<=g.heap.size:=p.size;have y:g.heap.size<=w5.heap.size:=f.size;have r:∀b,Ns.ownBlock=QJ b->z+6<=b/\b<z2:=λb hb=>by obtain⟨cs,_,_,j,_⟩:=h.nodes;exact j b hb
 have o:∀b,Es.ownBlock=QJ b->z2+1<=b:=λb hb=>by obtain⟨cs,_,_,j,_⟩:=h.own;exact (j b hb).1
 have d:∀b,b<z+6->w5.heap[b]?=wr.heap[b]?:=λb hb=>(f.block b (by omega) (λq=>by have:=o b q;omega)).trans (p.block b (by omega) (λq=>by have:=(r b q).1;omega))
 refine⟨(h.below.trans (p.below (B:=z) (λi _ hi=>by have:=(r i hi).1;omega) (by omega))).trans (f.below (B:=z) (λi _ hi=>by have:=o i hi;omega) (by omega)),(d _ (by omega)).trans h.store,
  (v.turn NoR.good f (λb hb=>by omega) (λb hb q=>by have:=o b q;omega)).mono NoR.good (λb hb=>⟨hb.1,by omega⟩),u.mono EdR.good (λb hb=>⟨by omega,by omega⟩),
  a2_.fresh ((d _ (by omega)).trans h.m3),a2_.fresh ((d _ (by omega)).trans h.m2),ds_.fresh ((d _ (by omega)).trans h.m1) (by omega),by omega,XJ _⟩
end
theorem sn_ (es:List l_) (e:l_):em_ (es++[e])=(if e.dst=e.src then dv_ (dv_ (dv_ (em_ es) e.src 1 es.length) e.dst (-1) es.length) e.src 0 es.length else dv_ (dv_ (dv_ (dv_ (em_ es) e.src 1 es.length) e.dst (-1) es.length) e.src 0 es.length) e.dst 0 es.length):=by
 funext a d
 rw[Db_];by_cases o:e.dst=e.src
 ·rw[if_pos o];unfold dv_ K0_;rw[o];by_cases f:a=e.src
  ·subst f;by_cases h1:d=1
   ·subst h1;simp
   ·by_cases h2:d = -1
    ·subst h2;simp
    ·by_cases g:d=0
     ·subst g;simp
     ·simp[h1,h2,g]
  ·have j:e.src≠a:=λh=>f h.symm;simp[f,j]
 ·rw[if_neg o];unfold dv_ K0_;by_cases f:a=e.src
  ·subst f;have p:e.src≠e.dst:=λh=>o h.symm;by_cases h1:d=1
   ·subst h1;simp[p]
   ·by_cases h2:d = -1
    ·subst h2;simp[o,p]
    ·by_cases g:d=0
     ·subst g;simp[p]
     ·simp[h1,h2,g]
  ·have j:e.src≠a:=λh=>f h.symm;by_cases hb:a=e.dst
   ·subst hb;by_cases h1:d=1
    ·subst h1;simp[f,j]
    ·by_cases h2:d = -1
     ·subst h2;simp[f]
     ·by_cases g:d=0
      ·subst g;simp[f]
      ·simp[h1,h2,g]
   ·have q:e.dst≠a:=λh=>hb h.symm;simp[f,j,hb,q]
end
section
open Go Go.RowKit
def Kx_ (b:Bool) (w:QV) (e:Ending) (w':QV):Prop:=∃r:Int,e = XW (QK QU r)/\decide (0<=r)=b/\w'=w
structure vk_ (w:QV) (ids:List Int) (s:XZ) (wr:QV):Prop where
 below:XU w.heap.size w wr
 own:D_ 2 1 IxR wr (λb=>w.heap.size<=b/\b<wr.heap.size) ids s
theorem vk_.on {w:QV} {ids:List Int} {s:XZ} {wr w2:QV} (h:vk_ w ids s wr) (hb:XU wr.heap.size wr w2):vk_ w ids s w2:=
 ⟨h.below.trans (hb.mono h.below.size),(h.own.turn IxR.good (Turn.of_below hb) (λb hb=>hb.2) (λb hb d=>by omega)).mono IxR.good (λb d=>⟨d.1,XY d.2 hb.size⟩)⟩
theorem vk_.more {w:QV} {ids:List Int} {A:Option Addr} {c:Nat} {w5 w6:QV} {x:Int} {g4 c4:Nat} {cs:Nat->Array XZ} (hb:XU w.heap.size w w5) (r:∀i,i<ids.length->(cs i).size=1) (v:∀i x,ids[i]?=QJ x->IxR w5 (λb=>(w.heap.size<=b/\b<w5.heap.size)/\(Value.slice A ids.length c).ownBlock≠QJ b) x (cs i))
    (f:∀g,(Value.slice A ids.length c).ownBlock=QJ g->w.heap.size<=g/\g<w5.heap.size)
    (u:w6.ownsRow 0 2 1 (QQ (QJ ⟨g4,0,QY⟩) (ids.length+1) c4) (ids.length+1) (T_ cs ids.length++[QK QU x])) (d:w5.grownBy w6 (Value.slice A ids.length c).ownBlock) (p:(Value.slice A ids.length c).ownBlock=QJ g4\/w5.heap.size<=g4) (o:g4<w6.heap.size) :
    vk_ w (ids++[x]) (QQ (QJ ⟨g4,0,QY⟩) (ids.length+1) c4) w6:=by
 have q:=it_ (R:=IxR) (F:=λb=>w.heap.size<=b/\b<w5.heap.size) (G:=λ_=>False) (sz:=1) (E:=2) (c:=#[QK QU x]) (x:=x) IxR.good r v rfl rfl (λb h=>h.elim) (λb h=>h.2) (λb h=>h.elim) u d p;have C:w5.heap.size<=w6.heap.size:=d.size;refine⟨?_,q.mono IxR.good (λb j=>?_)⟩
 ·have ht:=Turn.of_grown d
  exact hb.trans (ht.below (B:=w.heap.size) (λi _ hi=>by
   by_cases y:w.heap.size<=i
   ·exact y
   ·exact (f i hi.symm).1) hb.size)
 ·rcases j with h | h | h
  ·exact⟨h.1,by omega⟩
  ·exact h.elim
  ·subst h;refine⟨?_,o⟩;rcases p with h | h
   ·exact (f b h).1
   ·have:=hb.size;omega
end
section
open Go Go.RowKit Go.Maps Go.WideMaps
end
section
open Go Go.RowKit
theorem qb_ {α : Type} {R:bu_ α} (f:R.Good) {E sz q j lo k:Nat} {w5 w6 w7:QV} {xs:List α} {A3:Option Addr} {c3:Nat} {cs:Nat->Array XZ} {x:α} {c:Array XZ} {g7 c7:Nat}
    (V:q<lo) (O:lo<=w5.heap.size) (d:xs.length=k) (o:∀b,(Value.slice A3 k c3).ownBlock=QJ b->lo<=b/\b<w5.heap.size) (C:∀i,i<k->(cs i).size=sz) (L:∀i x,xs[i]?=QJ x->R w5 (λb=>(lo<=b/\b<w5.heap.size)/\(Value.slice A3 k c3).ownBlock≠QJ b) x (cs i))
    (g:XU w5.heap.size w5 w6) (v:R w6 (λb=>w5.heap.size<=b/\b<w6.heap.size) x c) (I:c.size=sz) (r:w6.grownBy w7 (Value.slice A3 k c3).ownBlock) (u:(Value.slice A3 k c3).ownBlock=QJ g7\/g7=w6.heap.size+1)
    (B:w7.ownsRow 0 E sz (QQ (QJ ⟨g7,0,QY⟩) (k+1) c7) (k+1) (T_ cs k++c.toList)) :
    D_ E sz R (w7.setCell ⟨q,j,QY⟩ (QQ (QJ ⟨g7,0,QY⟩) (k+1) c7)) (λb=>lo<=b/\b<(w7.setCell ⟨q,j,QY⟩ (QQ (QJ ⟨g7,0,QY⟩) (k+1) c7)).heap.size) (xs++[x]) (QQ (QJ ⟨g7,0,QY⟩) (k+1) c7) /\
     Turn (λb=>QJ b=(Value.slice A3 k c3).ownBlock\/b=q) w6 (w7.setCell ⟨q,j,QY⟩ (QQ (QJ ⟨g7,0,QY⟩) (k+1) c7)):=by
 have T:w5.heap.size<=w6.heap.size:=g.size;have U:w6.heap.size<=w7.heap.size:=r.size;have N:g7<w7.heap.size:=(B.lt g7 rfl).2
 have h:=it_ (w5:=w6) (w6:=w7) (R:=R) (E:=E) (sz:=sz) (F:=λb=>lo<=b/\b<w5.heap.size) (G:=λb=>w5.heap.size<=b/\b<w6.heap.size) (l:=xs) (x:=x) (s:=QQ A3 k c3) (c:=c) (g4:=g7) (c4:=c7) (cs:=cs) f
  (λi hi=>C i (by omega)) (λi y M=>f.keep (L i y M) (λp J=>g.cell (by have:=J.1.2;omega))) v I (λb hb e=>by have:=(o b e).2;have:=hb.1;omega) (λb hb=>by have:=hb.2;omega) (λb hb=>hb.2) (by rw[d];exact B) r (by rcases u with e | e;exact .inl e;exact .inr (by omega))
 rw[d]at h
 have D:Turn (λb=>QJ b=(Value.slice A3 k c3).ownBlock\/b=q) w6 (w7.setCell ⟨q,j,QY⟩ (QQ (QJ ⟨g7,0,QY⟩) (k+1) c7)):=
  ((Turn.of_grown r).mono (λb _ hb=>.inl hb)).trans (((Turn.refl (λb=>b=q) w7).setCell (p:=⟨q,j,QY⟩) (.inr rfl) _).mono (λb _ hb=>.inr hb))
 refine⟨(h.turn f ((Turn.refl (λb=>b=q) w7).setCell (p:=⟨q,j,QY⟩) (.inr rfl) _) (λb hb=>?_) (λb hb e=>?_)).mono f (λb hb=>?_),D⟩
 ·rcases hb with hb | hb | hb
  ·omega
  ·omega
  ·omega
 ·rcases hb with hb | hb | hb
  ·omega
  ·omega
  ·rcases u with h1 | h1
   ·have:=(o g7 h1).1;omega
   ·omega
 ·show lo<=b/\b<(w7.setCell _ _).heap.size;simp only[World.size_setCell];rcases hb with hb | hb | hb
  ·omega
  ·omega
  ·rcases u with h1 | h1
   ·have:=(o g7 h1).1;omega
   ·omega
structure Pl1 (w:QV) (z:Nat) (ns:List h_) (Ns:XZ) (wr:QV):Prop where
 below:XU z w wr
 res:wr.heap[z]?=QJ (XX #[QQ QY 0 0,QQ QY 0 0] 54 (0,0))
 box:wr.heap[z+1]?=QJ (XX #[Ns,QQ QY 0 0] 54 (0,0))
 own:D_ 72 3 NoR wr (λb=>z+2<=b/\b<wr.heap.size) ns Ns
structure Pl2 (w:QV) (z z2:Nat) (ns:List h_) (es:List l_) (Ns Es:XZ) (wr:QV):Prop where
 below:XU z w wr
 res:wr.heap[z]?=QJ (XX #[QQ QY 0 0,QQ QY 0 0] 54 (0,0))
 box:wr.heap[z+1]?=QJ (XX #[Ns,Es] 54 (0,0))
 nodes:D_ 72 3 NoR wr (λb=>z+2<=b/\b<z2) ns Ns
 own:D_ 74 5 EdR wr (λb=>z2<=b/\b<wr.heap.size) es Es
 loc:z+2<=z2/\z2<=wr.heap.size
section
variable {w:QV} {z z2:Nat} {ns:List h_} {es:List l_} {Ns Es:XZ} {wr w2:QV}
theorem Pl1.on (h:Pl1 w z ns Ns wr) (hb:XU wr.heap.size wr w2):Pl1 w z ns Ns w2:=by have hz:=b_ h.box;exact⟨h.below.trans (hb.mono (by omega)),(hb.block _ (by omega)).trans h.res,(hb.block _ hz).trans h.box,(h.own.turn NoR.good (Turn.of_below hb) (λb hb=>hb.2) (λb hb h=>by omega)).mono NoR.good (λb d=>⟨d.1,XY d.2 hb.size⟩)⟩
theorem Pl2.on (h:Pl2 w z z2 ns es Ns Es wr) (hb:XU wr.heap.size wr w2):Pl2 w z z2 ns es Ns Es w2:=by
 have hz:=b_ h.box;have f:=h.loc
 exact⟨h.below.trans (hb.mono (by omega)),(hb.block _ (by omega)).trans h.res,(hb.block _ hz).trans h.box,h.nodes.turn NoR.good (Turn.of_below hb) (λb hb=>by omega) (λb hb h=>by omega),
  (h.own.turn EdR.good (Turn.of_below hb) (λb hb=>hb.2) (λb hb h=>by omega)).mono EdR.good (λb d=>⟨d.1,XY d.2 hb.size⟩),f.1,YK f.2 hb.size⟩
theorem Pl1.next (h:Pl1 w z ns Ns wr):Pl2 w z wr.heap.size ns [] Ns (QQ QY 0 0) wr:=by have hz:=b_ h.box;exact⟨h.below,h.res,h.box,h.own,D_.nil ..,by omega,XJ _⟩
end
theorem Pl1.more {w:QV} {z k:Nat} {ns:List h_} {A3:Option Addr} {c3:Nat} {w5 w6 w7:QV} {cs:Nat->Array XZ} {n':h_} {c:Array XZ} {g7 c7:Nat}
    (h:Pl1 w z ns (QQ A3 k c3) w5) (u:ns.length=k) (p:∀b,(Value.slice A3 k c3).ownBlock=QJ b->z+2<=b/\b<w5.heap.size) (v:∀i,i<k->(cs i).size=3) (J:∀i x,ns[i]?=QJ x->NoR w5 (λb=>(z+2<=b/\b<w5.heap.size)/\(Value.slice A3 k c3).ownBlock≠QJ b) x (cs i))
    (d:XU w5.heap.size w5 w6) (C:NoR w6 (λb=>w5.heap.size<=b/\b<w6.heap.size) n' c) (F:c.size=3) (r:w6.grownBy w7 (Value.slice A3 k c3).ownBlock) (G:(Value.slice A3 k c3).ownBlock=QJ g7\/g7=w6.heap.size+1)
    (I:w7.ownsRow 0 72 3 (QQ (QJ ⟨g7,0,QY⟩) (k+1) c7) (k+1) (T_ cs k++c.toList)) :
    Pl1 w z (ns++[n']) (QQ (QJ ⟨g7,0,QY⟩) (k+1) c7) (w7.setCell ⟨z+1,0,QY⟩ (QQ (QJ ⟨g7,0,QY⟩) (k+1) c7)):=by
 have hz:=b_ h.box;have o:=h.on d;have L:w5.heap.size<=w6.heap.size:=d.size;have M:w6.heap.size<=w7.heap.size:=r.size;obtain⟨D,y⟩:=qb_ (q:=z+1) (j:=0) (lo:=z+2) NoR.good (by omega) (by omega) u p v J d C F r G I;have g:∀b,b<z+2->QJ b≠(Value.slice A3 k c3).ownBlock:=λb hb e=>by have:=(p b e.symm).1;omega
 refine⟨o.below.trans (y.below (B:=z) (λi _ hi=>?_) (by omega)),(y.block _ (by omega) (λf=>?_)).trans o.res,?_,D⟩
 ·rcases hi with hi | hi
  ·have:=(p i hi.symm).1;omega
  ·omega
 ·rcases f with f | f
  ·exact g _ (by omega) f
  ·omega
 ·exact heap_setCell_same w7 (z+1) 0 _ _ _ ((r.block (z+1) (by omega) (g _ (by omega))).trans o.box)
theorem Pl2.more {w:QV} {z z2 k:Nat} {ns:List h_} {es:List l_} {Ns:XZ} {A3:Option Addr} {c3:Nat} {w5 w6 w7:QV} {cs:Nat->Array XZ} {n':l_} {c:Array XZ} {g7 c7:Nat}
    (h:Pl2 w z z2 ns es Ns (QQ A3 k c3) w5) (y:es.length=k) (r:∀b,(Value.slice A3 k c3).ownBlock=QJ b->z2<=b/\b<w5.heap.size) (C:∀i,i<k->(cs i).size=5) (L:∀i x,es[i]?=QJ x->EdR w5 (λb=>(z2<=b/\b<w5.heap.size)/\(Value.slice A3 k c3).ownBlock≠QJ b) x (cs i))
    (f:XU w5.heap.size w5 w6) (D:EdR w6 (λb=>w5.heap.size<=b/\b<w6.heap.size) n' c) (G:c.size=5) (v:w6.grownBy w7 (Value.slice A3 k c3).ownBlock) (I:(Value.slice A3 k c3).ownBlock=QJ g7\/g7=w6.heap.size+1)
    (J:w7.ownsRow 0 74 5 (QQ (QJ ⟨g7,0,QY⟩) (k+1) c7) (k+1) (T_ cs k++c.toList)) :
    Pl2 w z z2 ns (es++[n']) Ns (QQ (QJ ⟨g7,0,QY⟩) (k+1) c7) (w7.setCell ⟨z+1,1,QY⟩ (QQ (QJ ⟨g7,0,QY⟩) (k+1) c7)):=by
 have hz:=b_ h.box;have g:=h.loc;have p:=h.on f;have M:w5.heap.size<=w6.heap.size:=f.size;have N:w6.heap.size<=w7.heap.size:=v.size;obtain⟨F,u⟩:=qb_ (q:=z+1) (j:=1) (lo:=z2) EdR.good (by omega) g.2 y r C L f D G v I J;have o:∀b,b<z2->QJ b≠(Value.slice A3 k c3).ownBlock:=λb hb e=>by have:=(r b e.symm).1;omega
 refine⟨p.below.trans (u.below (B:=z) (λi _ hi=>?_) (by omega)),(u.block _ (by omega) (λd=>?_)).trans p.res,?_,p.nodes.turn NoR.good u (λb hb=>by omega) (λb hb d=>?_),F,g.1,by simp only[World.size_setCell];omega⟩
 ·rcases hi with hi | hi
  ·have:=(r i hi.symm).1;omega
  ·omega
 ·rcases d with d | d
  ·exact o _ (by omega) d
  ·omega
 ·exact heap_setCell_same w7 (z+1) 1 _ _ _ ((v.block (z+1) (by omega) (o _ (by omega))).trans p.box)
 ·rcases d with d | d
  ·exact o _ (by omega) d
  ·omega
def A0_ (G:w_) (w:QV) (e:Ending) (w':QV):Prop:=
 ∃(A:Option Addr) (c:Nat) (B:Option Addr) (d:Nat) (ns:List h_) (es:List l_),e = XW (.agg #[QQ A ns.length c,QQ B es.length d])/\XU w.heap.size w w'/\GrR w' (λb=>w.heap.size<=b/\b<w'.heap.size) ⟨ns,es⟩ (.agg #[QQ A ns.length c,QQ B es.length d])/\bz_ jt_ G.nodes ns/\bz_ j6_ G.edges es
theorem D2_ (G:w_) (lo p:Nat) (ch c4:XZ) (mh mt ma mid n0:Nat) (w:QV) (a9:ch_ w lo p G ch c4 mh mt ma mid n0) (ae:me_ G) (bk:∀n,n∈G.nodes->Ax_ n) (bj:∀e,e∈G.edges->Aw_ e) :
    Calls QW 77 #[YX (QJ ⟨p,0,QY⟩)] w (A0_ G w):=by
 have b2:=q_ ae;have c9:=q_ bk;have c8:=q_ bj;obtain⟨AN,cN,bx,_,bh⟩:=a9.nodes;obtain⟨AE,cE,bw,_,bf⟩:=a9.edges;obtain⟨nN,ab⟩:=a_ G.nodes.length;obtain⟨Y,aa⟩:=a_ G.edges.length;have cx:nN<=2000000:=by rw[<-ab.o];exact ae.1
 have cw:Y<=2000000:=by rw[<-aa.o];exact ae.2.1
 rw[ab.o]at bx bh;rw[aa.o]at bw bf;subst bx bw;have b7:=q_ a9;obtain⟨z,HZ⟩:=a_ w.heap.size;have cb:=q_ (bh.mono NoR.good (F':=λb=>b<z) (λb hb=>by have:=a9.loc;have:=HZ.o;omega));have c5:=q_ (bf.mono EdR.good (F':=λb=>b<z) (λb hb=>by have:=a9.loc;have:=HZ.o;omega));have cn:p<z:=by rw[<-HZ.o];exact b_ a9.blk
 clear a9 ae bk bj bh bf;obtain⟨w1,az⟩:=a_ ((w.alloc (XX #[QQ QY 0 0,QQ QY 0 0] 54)).alloc (XX #[QQ QY 0 0,QQ QY 0 0] 54));have bs:=q_ (show XU w.heap.size w w1 from by rw[<-az.o];exact B_ w _ _)
 have ca:=q_ (show Pl1 w z [] (QQ QY 0 0) w1 from by
  refine⟨by rw[<-HZ.o];exact bs.o,?_,?_,D_.nil ..⟩
  ·rw[<-az.o,Below.heap_alloc _ _ _ (by rw[<-HZ.o];simp),<-HZ.o];exact heap_alloc_new w _
  ·have:=heap_alloc_new (w.alloc (XX #[QQ QY 0 0,QQ QY 0 0] 54)) (XX #[QQ QY 0 0,QQ QY 0 0] 54);rw[az.o]at this;simpa [HZ.o] using this)
 have x0:w1.cell? ⟨p,0,QY⟩=QJ (QQ AN nN cN):=(bs.o.cell (b_ b7.o.blk)).trans (QX b7.o.blk 0);go_enter Tryz.func77,Tryz.ntmps77
 go_upto_region 2 with fail;rw[HZ.o,az.o];go_wp2_with fail;clear x0;go_loopw [13] (λs wx=>∃(k:Nat) (xs:List h_) (Xs:XZ),k<=nN/\s = QK QU (k:Nat)/\Q_ (Pl1 w z xs Xs wx/\bz_ jt_ (G.nodes.take k) xs)) (λs _=>nN-(intOf s).toNat)
 case atStart=>exact⟨0,[],_,by omega,rfl,q_ ⟨ca.o,by rw[List.take_zero];exact bz_.nil _⟩⟩
 case round=>
  obtain⟨k,xs,Xs,hk,rfl,a6⟩:=hrel;have f:=q_ a6.o.1;have D:=q_ a6.o.2;clear a6;by_cases bp:k<nN
  ·obtain⟨x,hx⟩:∃x,G.nodes[k]?=QJ x:=⟨G.nodes[k]'(by rw[ab.o];exact bp),XQ _⟩;have HX:=q_ hx;have bl:=q_ (b2.o.2.2.1 x (YQ hx));have bi:=q_ (c9.o x (YQ hx));obtain⟨ad,A1,d1,A2,d2,rfl,bg,bz,cl,bo,q0,q1,q2⟩:=ls_ (cb.o.under NoR.good f.o.below (λb hb=>hb)) hx;have r:=q_ bz;clear hx bg bz cl bo;obtain⟨id,a4⟩:=a_ x.id;obtain⟨m1,ce⟩:=a_ x.labels.length;obtain⟨m2,b9⟩:=a_ x.props.length;rw[a4.o]at q0 r;rw[ce.o]at q1 r;rw[b9.o]at q2 r;obtain⟨zn,ai⟩:=a_ wr.heap.size;obtain⟨w5,a3⟩:=a_ (wr.alloc (XX #[QK QU id,QQ A1 m1 d1,QQ A2 m2 d2] 72));have af:=q_ (show XU wr.heap.size wr w5 from by rw[<-a3.o];exact (XV _ _).alloc (XJ _) _);have T:=q_ (show w5.heap[zn]?=QJ (XX #[QK QU id,QQ A1 m1 d1,QQ A2 m2 d2] 72 (0,0)) from by rw[<-a3.o,<-ai.o];exact heap_alloc_new wr _);have j:=q_ (f.o.on af.o);have d:xs.length=k:=by rw[<-D.o.1,List.length_take,ab.o];omega
   have ap:=q_ d;obtain⟨A3,c3,h3⟩:=j.o.own.form;rw[d]at h3;subst h3;have c1:=q_ (show XU z w w5 from j.o.below);have M:=q_ (show z+1<w5.heap.size from b_ j.o.box);have bq:=q_ (qp_ x bl.o.1 bi.o (λb=>b<z) _ w5.drew (λb hb=>by show b<w5.heap.size;have:=M.o;omega) (NoR.good.keep r.o (w':=w5.drew) (λq hq=>(af.o.cell (XY hq (by have:=b_ f.o.box;omega))))));obtain⟨cs,L,a5,aj,hr⟩:=j.o.own;rw[d]at L a5;have ar:=q_ L;have Z:=q_ (show ∀b,(Value.slice A3 k c3).ownBlock=QJ b->z+2<=b/\b<w5.heap.size from aj);have U:=q_ (And.intro a5 hr);have g0:w5.drew.cell? ⟨z+1,0,QY⟩=QJ (QQ A3 k c3):=QX j.o.box 0;have n0:w5.drew.cell? ⟨zn,0,QY⟩=QJ (QK QU id):=QX T.o 0;have n1:w5.drew.cell? ⟨zn,1,QY⟩=QJ (QQ A1 m1 d1):=QX T.o 1;have n2:w5.drew.cell? ⟨zn,2,QY⟩=QJ (QQ A2 m2 d2):=QX T.o 2;clear d L a5 aj hr f;obtain⟨i0,bm,av,aw,ay⟩:=info_parts wm_;have e1:(0:Int)<=k:=by omega
   have e2:(k:Int)<nN:=by omega
   go_upto_region 5 with fail;rw[ai.o,a3.o];clear q0 q1 q2;go_region_law (first | (refine step_append_lies _ rfl _ _ 51 rfl 0 72 i0 (.agg #[QK QU 0,QQ none 0 0,QQ none 0 0]) 3 56 Tryz.underlying51 bm av aw ay rfl (by decide) (QQ A3 k c3) k (T_ cs k) rfl (by exact ac.o.alloc _) ⟨w6.heap.size,0,none⟩ 1 1 [QK QU id,QQ A6 q6 c6,QQ J N y] rfl rfl (World.news_of_block (cs:=#[QK QU id,QQ A6 q6 c6,QQ J N y]) (by exact NB.o)) aq.o (by omega) (by unfold maxLen;omega) (by omega) (Nat.zero_le _) (w6.heap.size+1) (by exact b6.o) (λg7 c7 w7 ao C am _=>?_);have b5:=q_ ao;have ah:=q_ (show w6.grownBy w7 (Value.slice A3 k c3).ownBlock from az_ (w:=w6) (o:=XX #[QK QU id,QQ A6 q6 c6,QQ J N y] 72) ⟨C.os,C.tape,C.output,C.size,C.block⟩);have b3:=q_ (show (Value.slice A3 k c3).ownBlock=some g7\/g7=w6.heap.size+1 from am);have ag:=q_ ((ah.o.block (z+1) (by have:=a2.o;omega) (λe=>by have:=Z.o (z+1) e.symm;omega)).trans a1.o);have f7:w7.frozen? ⟨z+1,0,none⟩=false:=Lib.frozen_of_heap ag.o 0;have cj:w7.cell? ⟨z+1,0,none⟩=some (QQ A3 k c3):=QX ag.o 0;clear ao C am) | (go_simp;go_at_call 91;(with_reducible refine bq.o.mono ?_);rintro e w6 ⟨cc,n',rfl,F,B,a8⟩;have a0:=q_ a8;obtain⟨L6,P6,rfl,⟨A6,c6,rfl,_,_⟩,J,y,rfl,_,_⟩:=a8;obtain⟨q6,cf⟩:=a_ n'.labels.length;obtain⟨N,ba⟩:=a_ n'.props.length;rw[cf.o,ba.o]at a0 ⊢;rw[B.1,a4.o]at a0 ⊢;have b1:=q_ F;have au:=q_ B;have a2:=q_ (show z+1<w6.heap.size from by have h1:w5.heap.size<=w6.heap.size:=F.size;have:=M.o;omega);have ac:=q_ ((Turn.of_below F).owns ar.o (λg hg h=>by have:=Z.o g hg;have h2:w5.heap.size<=g:=h;omega));have a1:=q_ ((F.block (z+1) (by show z+1<w5.heap.size;exact M.o)).trans j.o.box);have bd:w6.cell? ⟨z+1,0,none⟩=some (QQ A3 k c3):=QX a1.o 0;have ci:(w6.alloc (XX #[QK QU id,QQ A6 q6 c6,QQ J N y] 72)).cell? ⟨z+1,0,none⟩=some (QQ A3 k c3):=(World.cell?_alloc_lt w6 _ _ (by show z+1<_;exact a2.o)).trans bd;have aq:=q_ (show ∀u∈([QK QU id,QQ A6 q6 c6,QQ J N y]:List XZ),u.oneCell'=true from λu hu=>by simp at hu;rcases hu with rfl | rfl | rfl<;>rfl);have NB:=q_ (heap_alloc_new w6 (XX #[QK QU id,QQ A6 q6 c6,QQ J N y] 72));have b6:=q_ (show (w6.alloc (XX #[QK QU id,QQ A6 q6 c6,QQ J N y] 72)).heap.size=w6.heap.size+1 by simp);clear F B))
   all_goals (
    have w1:IntKind.i64.wrap ((k:Int)+1)=(k:Int)+1:=IntWalk.i64_in _ (by omega);go_wp2_with fail;go_roundw)
   all_goals first
    | (case measure=>simp[intOf];omega)
    | (case rel=>
        refine⟨k+1,xs++[n'],QQ (QJ ⟨g7,0,QY⟩) (k+1) c7,by omega,by go_num,q_ ⟨?_,by rw[f_ HX.o];exact D.o.snoc au.o⟩⟩;exact Pl1.more j.o ap.o Z.o U.o.1 U.o.2 (de_ b1.o) a0.o rfl ah.o b3.o b5.o)
  ·have a7:nN=k:=by omega
   have b0:=q_ (show bz_ jt_ G.nodes xs from by have h:=D.o;rw[List.take_of_length_le (by rw[ab.o,a7];exact XJ _)]at h;exact h);have d:xs.length=k:=by rw[<-b0.o.1,ab.o];exact a7
   obtain⟨O,V,hX⟩:=f.o.own.form;rw[d]at hX;subst hX;have b4:=q_ d;have ak:=f.o.next;obtain⟨ns,c0⟩:∃ns,ns=xs:=⟨xs,rfl⟩;rw[<-c0]at ak b0 b4;obtain⟨z2,cg⟩:=a_ wr.heap.size;rw[cg.o]at ak;obtain⟨k1,bn⟩:∃k1,k1=k:=⟨k,rfl⟩;rw[<-bn]at ak b4;have bt:=q_ ak;have ct:=q_ bn;have x1:wr.cell? ⟨p,1,QY⟩=QJ (QQ AE Y cE):=(bt.o.below.cell cn).trans (QX b7.o.blk 1);clear d c0 f ak D bn;subst a7;go_upto_region 7 with fail;go_wp2_with fail;clear x1;go_loopw [30] (λs wx=>∃(k:Nat) (xs:List l_) (Xs:XZ),k<=Y/\s = QK QU (k:Nat)/\Q_ (Pl2 w z z2 ns xs (QQ O k1 V) Xs wx/\bz_ j6_ (G.edges.take k) xs)) (λs _=>Y-(intOf s).toNat)
   case atStart=>exact⟨0,[],_,by omega,rfl,q_ ⟨bt.o,by rw[List.take_zero];exact bz_.nil _⟩⟩
   case round=>
    obtain⟨k,xs,Xs,hk,rfl,a6⟩:=hrel;have f:=q_ a6.o.1;have D:=q_ a6.o.2;clear a6;by_cases bp:k<Y
    ·obtain⟨x,hx⟩:∃x,G.edges[k]?=QJ x:=⟨G.edges[k]'(by rw[aa.o];exact bp),XQ _⟩;have HX:=q_ hx;have bl:=q_ (b2.o.2.2.2 x (YQ hx));have bi:=q_ (c8.o x (YQ hx));obtain⟨ad,A2,d2,rfl,bg,bu,bo,q0,q1,q2,q3,q4⟩:=i8_ (c5.o.under EdR.good f.o.below (λb hb=>hb)) hx;have r:=q_ bu;clear hx bg bu bo;obtain⟨id,a4⟩:=a_ x.id;obtain⟨src,bb⟩:=a_ x.src;obtain⟨dst,b8⟩:=a_ x.dst;obtain⟨I,bc⟩:=a_ x.type;obtain⟨m2,b9⟩:=a_ x.props.length;rw[a4.o]at q0 r;rw[bb.o]at q1 r;rw[b8.o]at q2 r;rw[bc.o]at q3 r;rw[b9.o]at q4 r;obtain⟨zn,ai⟩:=a_ wr.heap.size;obtain⟨w5,a3⟩:=a_ (wr.alloc (XX #[QK QU id,QK QU src,QK QU dst,QZ I,QQ A2 m2 d2] 74));have af:=q_ (show XU wr.heap.size wr w5 from by rw[<-a3.o];exact (XV _ _).alloc (XJ _) _);have T:=q_ (show w5.heap[zn]?=QJ (XX #[QK QU id,QK QU src,QK QU dst,QZ I,QQ A2 m2 d2] 74 (0,0)) from by rw[<-a3.o,<-ai.o];exact heap_alloc_new wr _);have j:=q_ (f.o.on af.o);have d:xs.length=k:=by rw[<-D.o.1,List.length_take,aa.o];omega
     have ap:=q_ d;obtain⟨A3,c3,h3⟩:=j.o.own.form;rw[d]at h3;subst h3;have c1:=q_ (show XU z w w5 from j.o.below);have M:=q_ (show z+1<w5.heap.size from b_ j.o.box);have bq:=q_ (p6_ x bl.o.1 bi.o (λb=>b<z) _ w5.drew (λb hb=>by show b<w5.heap.size;have:=M.o;omega) (EdR.good.keep r.o (w':=w5.drew) (λq hq=>(af.o.cell (XY hq (by have:=b_ f.o.box;omega))))));obtain⟨cs,L,a5,aj,hr⟩:=j.o.own;rw[d]at L a5;have ar:=q_ L;have Z:=q_ (show ∀b,(Value.slice A3 k c3).ownBlock=QJ b->z2<=b/\b<w5.heap.size from aj);have U:=q_ (And.intro a5 hr);have g0:w5.drew.cell? ⟨z+1,1,QY⟩=QJ (QQ A3 k c3):=QX j.o.box 1;have n0:w5.drew.cell? ⟨zn,0,QY⟩=QJ (QK QU id):=QX T.o 0;have n1:w5.drew.cell? ⟨zn,1,QY⟩=QJ (QK QU src):=QX T.o 1;have n2:w5.drew.cell? ⟨zn,2,QY⟩=QJ (QK QU dst):=QX T.o 2;have n3:w5.drew.cell? ⟨zn,3,QY⟩=QJ (QZ I):=QX T.o 3;have n4:w5.drew.cell? ⟨zn,4,QY⟩=QJ (QQ A2 m2 d2):=QX T.o 4;have cq:z+2<=z2:=j.o.loc.1;clear d L a5 aj hr f;obtain⟨i0,bm,av,aw,ay⟩:=info_parts wl_;have e1:(0:Int)<=k:=by omega
     have e2:(k:Int)<Y:=by omega
     go_upto_region 10 with fail;rw[ai.o,a3.o];clear q0 q1 q2 q3 q4;go_region_law (first | (refine step_append_lies _ rfl _ _ 52 rfl 0 74 i0 (.agg #[QK QU 0,QK QU 0,QK QU 0,QZ ⟨#[]⟩,QQ none 0 0]) 5 64 Tryz.underlying52 bm av aw ay rfl (by decide) (QQ A3 k c3) k (T_ cs k) rfl (by exact ac.o.alloc _) ⟨w6.heap.size,0,none⟩ 1 1 [QK QU id,QK QU src,QK QU dst,QZ I,QQ J N y] rfl rfl (World.news_of_block (cs:=#[QK QU id,QK QU src,QK QU dst,QZ I,QQ J N y]) (by exact NB.o)) aq.o (by omega) (by unfold maxLen;omega) (by omega) (Nat.zero_le _) (w6.heap.size+1) (by exact b6.o) (λg7 c7 w7 ao C am _=>?_);have b5:=q_ ao;have ah:=q_ (show w6.grownBy w7 (Value.slice A3 k c3).ownBlock from az_ (w:=w6) (o:=XX #[QK QU id,QK QU src,QK QU dst,QZ I,QQ J N y] 74) ⟨C.os,C.tape,C.output,C.size,C.block⟩);have b3:=q_ (show (Value.slice A3 k c3).ownBlock=some g7\/g7=w6.heap.size+1 from am);have ag:=q_ ((ah.o.block (z+1) (by have:=a2.o;omega) (λe=>by have:=Z.o (z+1) e.symm;omega)).trans a1.o);have f7:w7.frozen? ⟨z+1,1,none⟩=false:=Lib.frozen_of_heap ag.o 1;have cj:w7.cell? ⟨z+1,1,none⟩=some (QQ A3 k c3):=QX ag.o 1;clear ao C am) | (go_simp;go_at_call 93;(with_reducible refine bq.o.mono ?_);rintro e w6 ⟨cc,n',rfl,F,B,a8⟩;have a0:=q_ a8;obtain⟨P6,rfl,J,y,rfl,_,_⟩:=a8;obtain⟨N,ba⟩:=a_ n'.props.length;rw[ba.o]at a0 ⊢;rw[B.1,B.2.1,B.2.2.1,B.2.2.2.1,a4.o,bb.o,b8.o,bc.o]at a0 ⊢;have b1:=q_ F;have au:=q_ B;have a2:=q_ (show z+1<w6.heap.size from by have h1:w5.heap.size<=w6.heap.size:=F.size;have:=M.o;omega);have ac:=q_ ((Turn.of_below F).owns ar.o (λg hg h=>by have:=Z.o g hg;have h2:w5.heap.size<=g:=h;omega));have a1:=q_ ((F.block (z+1) (by show z+1<w5.heap.size;exact M.o)).trans j.o.box);have bd:w6.cell? ⟨z+1,1,none⟩=some (QQ A3 k c3):=QX a1.o 1;have ci:(w6.alloc (XX #[QK QU id,QK QU src,QK QU dst,QZ I,QQ J N y] 74)).cell? ⟨z+1,1,none⟩=some (QQ A3 k c3):=(World.cell?_alloc_lt w6 _ _ (by show z+1<_;exact a2.o)).trans bd;have aq:=q_ (show ∀u∈([QK QU id,QK QU src,QK QU dst,QZ I,QQ J N y]:List XZ),u.oneCell'=true from λu hu=>by simp at hu;rcases hu with rfl | rfl | rfl | rfl | rfl<;>rfl);have NB:=q_ (heap_alloc_new w6 (XX #[QK QU id,QK QU src,QK QU dst,QZ I,QQ J N y] 74));have b6:=q_ (show (w6.alloc (XX #[QK QU id,QK QU src,QK QU dst,QZ I,QQ J N y] 74)).heap.size=w6.heap.size+1 by simp);clear F B))
     all_goals (
      have w1:IntKind.i64.wrap ((k:Int)+1)=(k:Int)+1:=IntWalk.i64_in _ (by omega);go_wp2_with fail;go_roundw)
     all_goals first
      | (case measure=>simp[intOf];omega)
      | (case rel=>
          refine⟨k+1,xs++[n'],QQ (QJ ⟨g7,0,QY⟩) (k+1) c7,by omega,by go_num,q_ ⟨?_,by rw[f_ HX.o];exact D.o.snoc au.o⟩⟩;exact Pl2.more j.o ap.o Z.o U.o.1 U.o.2 (de_ b1.o) a0.o rfl ah.o b3.o b5.o)
    ·have a7:Y=k:=by omega
     have br:=q_ (show bz_ j6_ G.edges xs from by have h:=D.o;rw[List.take_of_length_le (by rw[aa.o,a7];exact XJ _)]at h;exact h);have d:xs.length=k:=by rw[<-br.o.1,aa.o];exact a7
     obtain⟨W,X,hX⟩:=f.o.own.form;rw[d]at hX;subst hX;have c2:=q_ d;have cu:wr.cell? ⟨z+1,0,QY⟩=QJ (QQ O k1 V):=QX f.o.box 0;have cv:wr.cell? ⟨z+1,1,QY⟩=QJ (QQ W k X):=QX f.o.box 1;have r0:wr.cell? ⟨z,0,QY⟩=QJ (QQ QY 0 0):=QX f.o.res 0;have r1:wr.cell? ⟨z,1,QY⟩=QJ (QQ QY 0 0):=QX f.o.res 1;have y0:wr.frozen? ⟨z,0,QY⟩=false:=Lib.frozen_of_heap f.o.res 0;have y1:wr.frozen? ⟨z,1,QY⟩=false:=Lib.frozen_of_heap f.o.res 1;clear d D;subst a7;go_upto_region 12 with fail;go_wp2_with fail;have h1:=heap_setCell_same _ z 1 _ _ (QQ W Y X) (heap_setCell_same _ z 0 _ _ (QQ O k1 V) f.o.res);have ht:=(((Turn.refl (λb=>b=z) wr).setCell (p:=⟨z,0,QY⟩) (.inr rfl) (QQ O k1 V)).setCell (p:=⟨z,1,QY⟩) (.inr rfl) (QQ W Y X));obtain⟨W9,cd⟩:=a_ ((wr.setCell ⟨z,0,QY⟩ (QQ O k1 V)).setCell ⟨z,1,QY⟩ (QQ W Y X));rw[cd.o]at h1 ht ⊢;have k0:W9.cell? ⟨z,0,QY⟩=QJ (QQ O k1 V):=QX h1 0;have co:W9.cell? ⟨z,1,QY⟩=QJ (QQ W Y X):=QX h1 1;have cr:=f.o.loc;have cm:XU w.heap.size w W9:=by rw[HZ.o];exact f.o.below.trans (ht.below (λi _ h=>by omega) (by have:=b_ f.o.box;omega))
     have ck:GrR W9 (λb=>w.heap.size<=b/\b<W9.heap.size) ⟨ns,xs⟩ (.agg #[QQ O k1 V,QQ W Y X]):=by
      refine⟨_,_,rfl,?_,?_⟩
      ·refine ((f.o.nodes.turn NoR.good ht (λb hb=>by omega) (λb hb=>by omega)).rd NoR.good).mono NoR.good (λb hb=>⟨by have:=HZ.o;omega,by have:=ht.size;omega⟩)
      ·refine ((f.o.own.turn EdR.good ht (λb hb=>hb.2) (λb hb=>by omega)).rd EdR.good).mono EdR.good (λb hb=>⟨by have:=HZ.o;omega,by have:=ht.size;omega⟩)
     rw [<- b4.o, <- c2.o] at *;refine bodyPost_ret (v:=.agg #[QQ O ns.length V,QQ W xs.length X]) (by simp[results,Tryz.results77,go_sem,k0,co]) rfl ⟨O,V,W,X,ns,xs,rfl,cm,ck,b0.o,br.o⟩
end
section
open Go Go.RowKit Go.Shelf Go.Sort Go.Proofs
def WT (w:QV) (s:XZ):Prop:=∃n xs,w.ownsRow 0 9 1 s n xs/\n<=2000000
theorem WT.turn {S:Nat->Prop} {w w':QV} {s:XZ} (h:WT w s) (ht:Turn S w w') (d:∀g,s.ownBlock=QJ g->¬S g):WT w' s:=by obtain⟨n,xs,h1,h2⟩:=h;exact⟨n,xs,ht.owns h1 d,h2⟩
theorem WT.nil (w:QV):WT w (QQ QY 0 0):=⟨0,[],World.ownsRow_nil ..,by decide⟩
theorem WT.lt {w:QV} {s:XZ} (h:WT w s):∀g,s.ownBlock=QJ g->g<w.heap.size:=λg d=>by
 obtain⟨n,xs,h1,_⟩:=h;exact (h1.lt g d).2
end
section
open Go Go.RowKit
structure yv_ {α : Type} (le:α -> α -> Prop) (l:List α) (i:Nat) (c:List α):Prop where
 perm:c.Perm l
 rest:∀j,i<=j->c[j]?=l[j]?
 srt:∀p q x y,p<q->q<i->c[p]?=QJ x->c[q]?=QJ y->le x y
structure N5_ {α : Type} (le:α -> α -> Prop) (l:List α) (i k:Nat) (c:List α):Prop where
 perm:c.Perm l
 rest:∀j,i<j->c[j]?=l[j]?
 srt:∀p q x y,p<q->q<=i->p≠k->q≠k->c[p]?=QJ x->c[q]?=QJ y->le x y
 beh:∀q x y,k<q->q<=i->c[k]?=QJ x->c[q]?=QJ y->le x y
section
variable {α : Type} {le:α -> α -> Prop} {l c:List α} {i k:Nat}
theorem yv_.zero:yv_ le l 0 l:=⟨List.Perm.refl _,λ_ _=>rfl,λ_ _ _ _ _ h=>absurd h (Nat.not_lt_zero _)⟩
theorem yv_.one:yv_ le l 1 l:=⟨List.Perm.refl _,λ_ _=>rfl,λ_ _ _ _ h h2=>by omega⟩
theorem N5_.low (h:N5_ le l i 0 c):yv_ le l (i+1) c:=by
 refine⟨h.perm,λj o=>h.rest j (by omega),λp q x y h1 h2 f g=>?_⟩;by_cases d:p=0
 ·subst d;exact h.beh q x y h1 (by omega) f g
 ·exact h.srt p q x y h1 (by omega) d (by omega) f g
theorem yv_.done {n:Nat} (h:yv_ le l n c) (j:l.length<=n):c.Perm l/\c.Pairwise le:=by refine⟨h.perm,List.pairwise_iff_getElem.2 λp q g f d=>?_⟩;exact h.srt p q _ _ d (by rw[h.perm.length_eq]at f;omega) (XQ g) (XQ f)
end
structure bu_.GoodT {α : Type} (R:bu_ α):Prop where
 turn:∀{S:Nat->Prop} {w w':QV} {F:Nat->Prop} {x:α} {c:Array XZ},R w F x c->Turn S w w'->(∀b,F b->b<w.heap.size)->(∀b,F b->¬S b)->R w' F x c
 mono:∀{w:QV} {F F':Nat->Prop} {x:α} {c:Array XZ},R w F x c->(∀g,F g->F' g)->R w F' x c
theorem bu_.Good.t {α : Type} {R:bu_ α} (h:R.Good):R.GoodT:=⟨λj ht g f=>h.keep j λ_ d=>ht.cell (g _ d) (f _ d),h.mono⟩
structure mf_ {α : Type} (E sz:Nat) (R:bu_ α) (w:QV) (lo hi:Nat) (l:List α) (A:Option Addr) (n cp:Nat) (cs:Nat->Array XZ) (a:Nat->Nat):Prop where
 row:w.ownsRow 0 E sz (QQ A n cp) n (T_ cs n)
 len:l.length=n
 sz:∀i,i<n->(cs i).size=sz
 own:∀g,(Value.slice A n cp).ownBlock=QJ g->lo<=g/\g<hi
 up:∀i j,i<=j->a i<=a j
 lo_:lo<=a 0
 hi_:a n<=hi
 top:hi<=w.heap.size
 el:∀i x,l[i]?=QJ x->R w (λb=>a i<=b/\b<a (i+1)/\(Value.slice A n cp).ownBlock≠QJ b) x (cs i)
def js_ {α : Type} (E sz:Nat) (R:bu_ α) (w:QV) (lo hi:Nat) (l:List α) (s:XZ):Prop:=∃A cp cs a,s = QQ A l.length cp/\mf_ E sz R w lo hi l A l.length cp cs a
section
variable {α : Type} {R:bu_ α} {E sz lo hi n cp:Nat} {w w':QV} {l:List α} {A:Option Addr} {cs:Nat->Array XZ} {a:Nat->Nat} {s:XZ}
theorem mf_.turn {S:Nat->Prop} (p:R.GoodT) (h:mf_ E sz R w lo hi l A n cp cs a) (ht:Turn S w w') (f:∀b,lo<=b->b<hi->¬S b):mf_ E sz R w' lo hi l A n cp cs a:=by
 refine⟨ht.owns h.row (λg j=>f g (h.own g j).1 (h.own g j).2),h.len,h.sz,h.own,h.up,h.lo_,h.hi_,YK h.top ht.size,λi x d=>p.turn (h.el i x d) ht (λb hb=>?_) (λb hb=>?_)⟩
 ·have o:=b7_ d;have:=h.up (i+1) n (by have:=h.len;omega);have:=h.hi_;have:=h.top;omega
 ·have o:=b7_ d;have:=h.up (i+1) n (by have:=h.len;omega);have:=h.up 0 i (by omega);have:=h.hi_;have:=h.lo_;exact f b (by omega) (by omega)
theorem mf_.wide {d:Nat} (h:mf_ E sz R w lo hi l A n cp cs a) (j:hi<=d) (ht:d<=w.heap.size):mf_ E sz R w lo d l A n cp cs a:=
 ⟨h.row,h.len,h.sz,λg f=>⟨(h.own g f).1,XY (h.own g f).2 j⟩,h.up,h.lo_,YK h.hi_ j,ht,h.el⟩
theorem js_.turn {S:Nat->Prop} (d:R.GoodT) (h:js_ E sz R w lo hi l s) (ht:Turn S w w') (f:∀b,lo<=b->b<hi->¬S b):js_ E sz R w' lo hi l s:=by obtain⟨A,cp,cs,a,e,h⟩:=h;exact⟨A,cp,cs,a,e,h.turn d ht f⟩
theorem js_.wide {d:Nat} (h:js_ E sz R w lo hi l s) (f:hi<=d) (ht:d<=w.heap.size):js_ E sz R w lo d l s:=by obtain⟨A,cp,cs,a,e,h⟩:=h;exact⟨A,cp,cs,a,e,h.wide f ht⟩
theorem js_.low {d:Nat} (h:js_ E sz R w lo hi l s) (j:d<=lo):js_ E sz R w d hi l s:=by obtain⟨A,cp,cs,a,e,h⟩:=h;exact⟨A,cp,cs,a,e,h.row,h.len,h.sz,λg f=>⟨YK j (h.own g f).1,(h.own g f).2⟩,h.up,YK j h.lo_,h.hi_,h.top,h.el⟩
theorem js_.nil (d:lo<=hi) (ht:hi<=w.heap.size):js_ E sz R w lo hi [] (QQ QY 0 0):=
 ⟨none,0,λ_=>#[],λ_=>lo,rfl,World.ownsRow_nil ..,rfl,(λ_ h=>absurd h (Nat.not_lt_zero _)),(λg f=>by cases f),λ_ _ _=>XJ _,XJ _,d,ht,λi x j=>by simp at j⟩
theorem mf_.put {q j k:Nat} {w5 w6 w7:QV} {x:α} {c:Array XZ} {g7 c7:Nat} {v:XZ} (r:R.GoodT) (hq:q<lo) (h:mf_ E sz R w5 lo w5.heap.size l A k cp cs a)
    (D:XU w5.heap.size w5 w6) (N:R w6 (λb=>w5.heap.size<=b/\b<w6.heap.size) x c) (W:c.size=sz) (u:w6.grownBy w7 (Value.slice A k cp).ownBlock) (J:(Value.slice A k cp).ownBlock=QJ g7\/w6.heap.size<=g7)
    (O:w7.ownsRow 0 E sz (QQ (QJ ⟨g7,0,QY⟩) (k+1) c7) (k+1) (T_ cs k++c.toList)) :
    js_ E sz R (w7.setCell ⟨q,j,QY⟩ v) lo (w7.setCell ⟨q,j,QY⟩ v).heap.size (l++[x]) (QQ (QJ ⟨g7,0,QY⟩) (k+1) c7)/\Turn (λb=>QJ b=(Value.slice A k cp).ownBlock\/b=q) w6 (w7.setCell ⟨q,j,QY⟩ v):=by
 have a3:w5.heap.size<=w6.heap.size:=D.size;have a4:w6.heap.size<=w7.heap.size:=u.size;have Y:g7<w7.heap.size:=(O.lt g7 rfl).2;have f:=h.len
 have Z:lo<=g7:=by
  rcases J with e | e
  ·exact (h.own g7 e).1
  ·have:=h.lo_;have:=h.up 0 k (by omega);have:=h.hi_;omega
 have I:Turn (λb=>QJ b=(Value.slice A k cp).ownBlock\/b=q) w6 (w7.setCell ⟨q,j,QY⟩ v):=
  ((Turn.of_grown u).mono (λb _ hb=>.inl hb)).trans (((Turn.refl (λb=>b=q) w7).setCell (p:=⟨q,j,QY⟩) (.inr rfl) v).mono (λb _ hb=>.inr hb))
 have T:(w7.setCell ⟨q,j,QY⟩ v).heap.size=w7.heap.size:=by simp
 refine⟨⟨QJ ⟨g7,0,QY⟩,c7,λi=>if i=k then c else cs i,λi=>if i<=k then a i else w7.heap.size,by simp[f],?_⟩,I⟩
 have B:(l++[x]).length=k+1:=by simp[f]
 rw[B];refine⟨?_,B,λi hi=>?_,λg F=>?_,λi j M=>?_,?_,?_,XJ _,λi y C=>?_⟩
 ·rw[di_,f5_ (ds:=cs) (λi hi=>if_neg (by omega)),if_pos rfl]
  exact ((Turn.refl (λb=>b=q) w7).setCell (p:=⟨q,j,QY⟩) (.inr rfl) v).owns O (λg u e=>by have u:g7=g:=by injection u
                                                                                         omega)
 ·show (if i=k then c else cs i).size=sz
  by_cases e:i=k
  ·rw[if_pos e];exact W
  ·rw[if_neg e];exact h.sz i (by omega)
 ·have F:g7=g:=by injection F
  omega
 ·show (if i<=k then a i else w7.heap.size)<=(if j<=k then a j else w7.heap.size)
  by_cases d:j<=k
  ·rw[if_pos d,if_pos (by omega)];exact h.up i j M
  ·rw[if_neg d];by_cases G:i<=k
   ·rw[if_pos G];have:=h.up i k G;have:=h.hi_;omega
   ·rw[if_neg G];exact XJ _
 ·show lo<=if 0<=k then a 0 else w7.heap.size
  rw[if_pos (Nat.zero_le _)];exact h.lo_
 ·show (if k+1<=k then a (k+1) else w7.heap.size)<=_
  rw[if_neg (by omega),T];exact XJ _
 ·have L:=b7_ C;rw[B]at L;by_cases e:i=k
  ·subst e;have U:y=x:=by rw[List.getElem?_append_right (by omega),f,Nat.sub_self]at C;simpa using C.symm
   subst U;show R _ (λb=>(if i<=i then a i else w7.heap.size)<=b/\b<(if i+1<=i then a (i+1) else w7.heap.size)/\_) y (if i=i then c else cs i)
   rw[if_pos rfl,if_pos (XJ _),if_neg (by omega)];refine r.mono (r.turn N I (λb hb=>hb.2) (λb hb d=>?_)) λb hb=>⟨?_,by omega,λd=>?_⟩
   ·rcases d with d | d
    ·have:=(h.own b d.symm).2;omega
    ·have:=h.lo_;have:=h.up 0 i (by omega);have:=h.hi_;omega
   ·have:=h.hi_;omega
   ·have d:g7=b:=by injection d
    rcases J with o | o
    ·have:=(h.own g7 o).2;omega
    ·omega
  ·have a1:i<k:=by omega
   rw[List.getElem?_append_left (by omega)]at C;show R _ (λb=>(if i<=k then a i else w7.heap.size)<=b/\b<(if i+1<=k then a (i+1) else w7.heap.size)/\_) y (if i=k then c else cs i)
   rw[if_neg e,if_pos (show i<=k by omega),if_pos (show i+1<=k by omega)];have h1:=h.el i y C;have a5:=h.up (i+1) k (by omega);have a2:=h.up 0 i (by omega);have a0:=h.hi_;have X:=h.lo_;have V:=r.turn h1 (Turn.of_below D) (λb hb=>by omega) (λb hb d=>by omega);refine r.mono (r.turn V I (λb hb=>by omega) (λb hb d=>?_)) λb hb=>⟨hb.1,hb.2.1,λd=>?_⟩
   ·rcases d with d | d
    ·exact hb.2.2 d.symm
    ·omega
   ·have d:g7=b:=by injection d
    rcases J with o | o
    ·exact hb.2.2 (by rw[o,d])
    ·omega
end
def NoO:bu_ h_:=λw F n c=>∃L P m,c=#[QK QU n.id,L,P]/\D_ 9 1 TxR w (λb=>F b/\b<m) n.labels L/\D_ 69 7 PaR w (λb=>F b/\m<=b) n.props P
theorem NoO.good:NoO.GoodT:=
 ⟨fun⟨L,P,m,e,h1,h2⟩ ht hl hS=>⟨L,P,m,e,h1.turn TxR.good ht (λb hb=>hl b hb.1) (λb hb=>hS b hb.1),h2.turn PaR.good ht (λb hb=>hl b hb.1) (λb hb=>hS b hb.1)⟩,
  fun⟨L,P,m,e,h1,h2⟩ hF=>⟨L,P,m,e,h1.mono TxR.good (λb hb=>⟨hF b hb.1,hb.2⟩),h2.mono PaR.good (λb hb=>⟨hF b hb.1,hb.2⟩)⟩⟩
def EdO:bu_ l_:=λw F e c=>∃P,c=#[QK QU e.id,QK QU e.src,QK QU e.dst,QZ e.type,P]/\D_ 69 7 PaR w F e.props P
theorem EdO.good:EdO.GoodT:=
 ⟨fun⟨P,e,h⟩ ht hl hS=>⟨P,e,h.turn PaR.good ht hl hS⟩,fun⟨P,e,h⟩ hF=>⟨P,e,h.mono PaR.good hF⟩⟩
theorem NoO.rd {w:QV} {F:Nat->Prop} {n:h_} {c:Array XZ} (h:NoO w F n c):NoR w F n c:=by obtain⟨L,P,m,e,h1,h2⟩:=h;exact⟨L,P,e,(h1.rd TxR.good).mono TxR.good (λb hb=>hb.1),(h2.rd PaR.good).mono PaR.good (λb hb=>hb.1)⟩
theorem EdO.rd {w:QV} {F:Nat->Prop} {n:l_} {c:Array XZ} (h:EdO w F n c):EdR w F n c:=by obtain⟨P,e,h1⟩:=h;exact⟨P,e,h1.rd PaR.good⟩
section
variable {P:Program} {md:Region.Mode} {ops:Array Oper} {Q:Exit->Act->QV->Prop} {S:QV->Prop} {fuel:Nat} {listed:Array Bool} {a:Act} {w:QV}
end
structure Cg1 (w:QV) (z:Nat) (ns:List h_) (Ns:XZ) (wr:QV):Prop where
 below:XU z w wr
 res:wr.heap[z]?=QJ (XX #[QQ QY 0 0,QQ QY 0 0] 54 (0,0))
 box:wr.heap[z+1]?=QJ (XX #[Ns,QQ QY 0 0] 54 (0,0))
 own:js_ 72 3 NoO wr (z+2) wr.heap.size ns Ns
structure Cg2 (w:QV) (z z2:Nat) (ns:List h_) (es:List l_) (Ns Es:XZ) (wr:QV):Prop where
 below:XU z w wr
 res:wr.heap[z]?=QJ (XX #[QQ QY 0 0,QQ QY 0 0] 54 (0,0))
 box:wr.heap[z+1]?=QJ (XX #[Ns,Es] 54 (0,0))
 nodes:js_ 72 3 NoO wr (z+2) z2 ns Ns
 own:js_ 74 5 EdO wr z2 wr.heap.size es Es
 loc:z+2<=z2/\z2<=wr.heap.size
section
variable {w:QV} {z z2 k:Nat} {ns:List h_} {es:List l_} {Ns Es:XZ} {wr w2 w5 w6 w7:QV} {A3:Option Addr} {c3:Nat} {cs:Nat->Array XZ} {a:Nat->Nat} {c:Array XZ} {g7 c7:Nat}
theorem Cg1.on (h:Cg1 w z ns Ns wr) (hb:XU wr.heap.size wr w2):Cg1 w z ns Ns w2:=by have hz:=b_ h.box;exact⟨h.below.trans (hb.mono (by omega)),(hb.block _ (by omega)).trans h.res,(hb.block _ hz).trans h.box,(h.own.turn NoO.good (Turn.of_below hb) (λb _ hb h=>by omega)).wide hb.size (XJ _)⟩
theorem Cg2.on (h:Cg2 w z z2 ns es Ns Es wr) (hb:XU wr.heap.size wr w2):Cg2 w z z2 ns es Ns Es w2:=by
 have hz:=b_ h.box;have d:=h.loc
 exact⟨h.below.trans (hb.mono (by omega)),(hb.block _ (by omega)).trans h.res,(hb.block _ hz).trans h.box,h.nodes.turn NoO.good (Turn.of_below hb) (λb _ hb h=>by omega),
  (h.own.turn EdO.good (Turn.of_below hb) (λb _ hb h=>by omega)).wide hb.size (XJ _),d.1,YK d.2 hb.size⟩
theorem Cg1.next (h:Cg1 w z ns Ns wr):Cg2 w z wr.heap.size ns [] Ns (QQ QY 0 0) wr:=by have hz:=b_ h.box;exact⟨h.below,h.res,h.box,h.own,js_.nil (XJ _) (XJ _),by omega,XJ _⟩
theorem Cg1.more {n':h_} (h:Cg1 w z ns (QQ A3 k c3) w5) (p:mf_ 72 3 NoO w5 (z+2) w5.heap.size ns A3 k c3 cs a)
    (d:XU w5.heap.size w5 w6) (x:NoO w6 (λb=>w5.heap.size<=b/\b<w6.heap.size) n' c) (C:c.size=3) (r:w6.grownBy w7 (Value.slice A3 k c3).ownBlock) (D:(Value.slice A3 k c3).ownBlock=QJ g7\/w6.heap.size<=g7)
    (F:w7.ownsRow 0 72 3 (QQ (QJ ⟨g7,0,QY⟩) (k+1) c7) (k+1) (T_ cs k++c.toList)) :
    Cg1 w z (ns++[n']) (QQ (QJ ⟨g7,0,QY⟩) (k+1) c7) (w7.setCell ⟨z+1,0,QY⟩ (QQ (QJ ⟨g7,0,QY⟩) (k+1) c7)):=by
 have hz:=b_ h.box;have o:=h.on d;have G:w5.heap.size<=w6.heap.size:=d.size;have I:w6.heap.size<=w7.heap.size:=r.size;obtain⟨y,u⟩:=mf_.put (q:=z+1) (j:=0) (v:=QQ (QJ ⟨g7,0,QY⟩) (k+1) c7) NoO.good (by omega) p d x C r D F;have g:∀b,b<z+2->QJ b≠(Value.slice A3 k c3).ownBlock:=λb hb e=>by have:=(p.own b e.symm).1;omega
 refine⟨o.below.trans (u.below (B:=z) (λi _ hi=>?_) (by omega)),(u.block _ (by omega) (λf=>?_)).trans o.res,?_,y⟩
 ·rcases hi with hi | hi
  ·have:=(p.own i hi.symm).1;omega
  ·omega
 ·rcases f with f | f
  ·exact g _ (by omega) f
  ·omega
 ·exact heap_setCell_same w7 (z+1) 0 _ _ _ ((r.block (z+1) (by omega) (g _ (by omega))).trans o.box)
theorem Cg2.more {n':l_} (h:Cg2 w z z2 ns es Ns (QQ A3 k c3) w5) (p:mf_ 74 5 EdO w5 z2 w5.heap.size es A3 k c3 cs a)
    (f:XU w5.heap.size w5 w6) (y:EdO w6 (λb=>w5.heap.size<=b/\b<w6.heap.size) n' c) (D:c.size=5) (u:w6.grownBy w7 (Value.slice A3 k c3).ownBlock) (F:(Value.slice A3 k c3).ownBlock=QJ g7\/w6.heap.size<=g7)
    (G:w7.ownsRow 0 74 5 (QQ (QJ ⟨g7,0,QY⟩) (k+1) c7) (k+1) (T_ cs k++c.toList)) :
    Cg2 w z z2 ns (es++[n']) Ns (QQ (QJ ⟨g7,0,QY⟩) (k+1) c7) (w7.setCell ⟨z+1,1,QY⟩ (QQ (QJ ⟨g7,0,QY⟩) (k+1) c7)):=by
 have hz:=b_ h.box;have x:=h.loc;have o:=h.on f;have J:w5.heap.size<=w6.heap.size:=f.size;have L:w6.heap.size<=w7.heap.size:=u.size;obtain⟨C,r⟩:=mf_.put (q:=z+1) (j:=1) (v:=QQ (QJ ⟨g7,0,QY⟩) (k+1) c7) EdO.good (by omega) p f y D u F G;have g:∀b,b<z2->QJ b≠(Value.slice A3 k c3).ownBlock:=λb hb e=>by have:=(p.own b e.symm).1;omega
 refine⟨o.below.trans (r.below (B:=z) (λi _ hi=>?_) (by omega)),(r.block _ (by omega) (λd=>?_)).trans o.res,?_,o.nodes.turn NoO.good r (λb I hb d=>?_),C,x.1,by simp only[World.size_setCell];omega⟩
 ·rcases hi with hi | hi
  ·have:=(p.own i hi.symm).1;omega
  ·omega
 ·rcases d with d | d
  ·exact g _ (by omega) d
  ·omega
 ·exact heap_setCell_same w7 (z+1) 1 _ _ _ ((u.block (z+1) (by omega) (g _ (by omega))).trans o.box)
 ·rcases d with d | d
  ·exact g _ (by omega) d
  ·omega
end
end
section
open Go Go.RowKit Go.Maps
theorem kt_ {v:g_} (h:ah_ v):v.text.size<=1048576/\v.extra.size<=1048576:=by
 have d:=h.1
 have key:∀(k:Int) (b:Bool) (n:Int) (t x:ByteArray),v = .mk k b n t x []->t.size<=1048576->x.size<=1048576->v.text.size<=1048576/\v.extra.size<=1048576:=λk b n t x e h1 h2=>by
  rw[e];exact⟨h1,h2⟩
 have h0:(⟨#[]⟩:ByteArray).size<=1048576:=by decide
 rcases ca_ h with⟨_,e⟩ | ⟨_,e⟩ | ⟨_,_,e⟩ | ⟨f,e⟩
 ·exact key _ _ _ _ _ e h0 h0
 ·exact key _ _ _ _ _ e h0 h0
 ·rw[e]at d;exact key _ _ _ _ _ e (ui_ d).2.2.2.2 h0
 ·generalize v.kind=k at f e;rw[e]at d;rcases f with rfl | rfl | rfl | rfl
  ·have:=uj_ d;exact key _ _ _ _ _ e this.2.2.2.2 (by rw[this.2.2.1];exact h0)
  ·have:=m8_ d;exact key _ _ _ _ _ e this.2.2.2.2 (by rw[this.2.2.1];exact h0)
  ·have:=qa_ d;exact key _ _ _ _ _ e this.2.2.2.2 (by rw[this.2.2.1];exact h0)
  ·have:=os_ d;exact key _ _ _ _ _ e this.2.2.2.1 this.2.2.2.2
theorem rj_ {n:Nat} (h:n<=1000000000):VI (n:Int):=by
 unfold VI Lit.wf;have h1:IntKind.i64.min = -9223372036854775808:=by rfl
 have h2:IntKind.i64.max=9223372036854775807:=by rfl
 simp;rw[h1];omega
theorem qv_ {K:Type} [DecidableEq K] {D:List K} {v:K} (h:v∈D):place D v<D.length:=by
 induction D with
 | nil=>cases h
 | cons a r f=>
  rw[ko_];split
  ·simp
  ·rename_i d;rcases List.mem_cons.1 h with e | e
   ·exact absurd e.symm d
   ·have:=f e;simp;omega
theorem s2_ {D:List g_} {v:g_} (h:v∈D) (d:D.length<=150000):VI (b2_ D v):=by
 unfold b2_;classical
 exact rj_ (by have:=qv_ h;omega)
theorem ug_ {k:ByteArray} {s:ByteArray} (d:k.size<=2000000) (f:s.size<=1048576):B5_ ⟨k,txV s⟩:=⟨d,by show M_ (g_.mk 4 false 0 s ⟨#[]⟩ [])<=2000000;have h0:(⟨#[]⟩:ByteArray).size=0:=rfl;simp only[M_,Z_,h0];omega⟩
theorem wa_ (j:Int) {v:g_} (h:ah_ v):rm_ (L_ j v):=by
 obtain⟨ht,g⟩:=kt_ h;have hz:=nk_ h
 have d:∀{P:ByteArray->Prop} {s:ByteArray},P s->∀x,x∈[s]->P x:=λf x g=>by
  rw[List.mem_singleton.1 g];exact f
 unfold L_;split
 ·refine⟨by simp,by simp,d (by decide),λp f=>?_⟩;rw[List.mem_singleton.1 f];exact ug_ (by decide) ht
 ·split
  ·refine⟨by simp,by simp,d (by decide),λp f=>?_⟩;rw[List.mem_singleton.1 f];exact ug_ (by decide) ht
  ·split
   ·refine⟨by simp,by simp,d (by decide),λp f=>?_⟩;rcases List.mem_cons.1 f with e | e
    ·rw[e];exact ug_ (by decide) ht
    ·rw[List.mem_singleton.1 e];exact ug_ (by decide) g
   ·refine⟨by simp,by simp,d (by decide),λp f=>?_⟩;rw[List.mem_singleton.1 f];exact⟨(by decide:sV.size<=2000000),by show M_ v<=2000000;omega⟩
theorem Kw_ {T:List e_} (f:(U_ T).length<=150000) (r:T.length<=65536) (q:∀v,v∈U_ T->ah_ v) (g:∀t,t∈T->t.s∈U_ T/\t.o∈U_ T) (d:∀t,t∈T->ah_ t.p):me_ (a3_ T):=by
 refine⟨?_,?_,λn j=>?_,λe h=>?_⟩
 ·show ((U_ T).mapIdx _).length<=_;rw[List.length_mapIdx];omega
 ·show (T.mapIdx _).length<=_;rw[List.length_mapIdx];omega
 ·obtain⟨i,hi,e⟩:=List.mem_mapIdx.1 j;rw[<-e];refine⟨wa_ _ (q _ (List.getElem_mem hi)),?_⟩;rw[bn_];exact rj_ (by omega)
 ·obtain⟨i,hi,e⟩:=List.mem_mapIdx.1 h;rw[<-e];have ht:=List.getElem_mem hi;exact⟨⟨YK (kt_ (d _ ht)).1 (by decide),by simp,λp d=>by simp at d⟩,rj_ (by omega),s2_ (g _ ht).1 f,s2_ (g _ ht).2 f⟩
def i0_:g_:=.mk 0 false 0 ⟨#[]⟩ ⟨#[]⟩ []
def nt_ (o:Option G_) (k:ByteArray):Bool:=match o with | some p=>decide (p.key=k) | none=>false
def kv_ (n:h_):Bool:=decide (n.labels.length=1)&&(decide (1<=n.props.length)&&(decide (n.props.length<=2)&&(nt_ n.props[0]? sV&&(decide (n.props.length≠2) || nt_ n.props[1]? sX))))
def oj_ (s:ByteArray) (p:g_) (r:List G_):g_:=
 if s=I7_ then .mk 8 false 0 p.text ⟨#[]⟩ [] else if s=q7_ then .mk 9 false 0 p.text ⟨#[]⟩ [] else if s=I8_ then .mk 10 false 0 p.text (match r with | [q]=>q.v.text | _=>⟨#[]⟩) [] else if s=I9_ then p else i0_
def ly_ (n:h_):g_:=match n.labels,n.props with | [s],p::r=>oj_ s p.v r | _,_=>i0_
noncomputable def cc_ (n:h_):g_×Bool:=if kv_ n=true then (if (ly_ n).kind=0\/(ly_ n).kind=5\/z_ (ly_ n) 0=false then (i0_,false) else (ly_ n,fq_ (L_ n.id (ly_ n)) n)) else (i0_,false)
theorem ss_ {v:g_} {d:Nat} (h:z_ v d=true) (f:v.kind≠5):v.list=[]:=by
 cases v with
 | mk k b n t x l=>
  change k≠5 at f;unfold z_ at h;show l=[];rw[if_neg f]at h;repeat' split at h
  all_goals first
   | exact (ef_ h f).2.2.2.2
   | (rw[YJ]at h;exact (ef_ h.2 f).2.2.2.2)
   | (rw[YJ,YJ]at h;exact (ef_ h.2.2 f).2.2.2.2)
   | cases h
theorem gz_ {j:Int} {L:List ByteArray} {P:List G_} {f d:Nat} (g:L.length=f) (h:P.length=d):kv_ ⟨j,L,P⟩=(decide (f=1)&&(decide (1<=d)&&(decide (d<=2)&&(nt_ P[0]? sV&&(decide (d≠2) || nt_ P[1]? sX))))):=by subst g h;rfl
theorem z2_:(#[QK QU 0,XK false,QK QU 0,QZ ⟨#[]⟩,QZ ⟨#[]⟩,QQ QY 0 0]:Array XZ).all (·.oneCell')=true:=by kernel_rfl
theorem lm_:(Tryz.prog.info? 39).map (·.size)=QJ (#[QK QU 0,XK false,QK QU 0,QZ ⟨#[]⟩,QZ ⟨#[]⟩,QQ QY 0 0]:Array XZ).size:=by kernel_rfl
theorem z1_ (k:Int) (t:ByteArray):(#[QK QU k,XK false,QK QU 0,QZ t,QZ ⟨#[]⟩,QQ QY 0 0]:Array XZ).all (·.oneCell')=true:=by kernel_rfl
theorem up_ (k:Int) (t:ByteArray):(Tryz.prog.info? 39).map (·.size)=QJ (#[QK QU k,XK false,QK QU 0,QZ t,QZ ⟨#[]⟩,QQ QY 0 0]:Array XZ).size:=by kernel_rfl
theorem xc_ {s:ByteArray} {p:g_} {r:List G_} (d:M_ p<=2000000) (f:∀q,q∈r->M_ q.v<=2000000):M_ (oj_ s p r)<=5000000:=by
 have ht:∀v:g_,M_ v<=2000000->v.text.size / 64<=2000000:=λv h=>by
  cases v with
  | mk k b n t x l=>
   simp only[M_]at h;show t.size / 64<=2000000;omega
 have h1:∀(k:Int) (t x:ByteArray),t.size / 64<=2000000->x.size / 64<=2000000->M_ (.mk k false 0 t x [])<=5000000:=λk t x h1 h2=>by
  simp only[M_,Z_];omega
 have h0:(⟨#[]⟩:ByteArray).size / 64<=2000000:=by decide
 unfold oj_;split
 ·exact h1 _ _ _ (ht _ d) h0
 ·split
  ·exact h1 _ _ _ (ht _ d) h0
  ·split
   ·refine h1 _ _ _ (ht _ d) ?_;split
    ·exact ht _ (f _ (by simp))
    ·exact h0
   ·split
    ·omega
    ·decide
theorem nc_ (d:Int) (v:g_):(L_ d v).labels.length<=1000000000/\(L_ d v).props.length<=1000000000:=by
 unfold L_
 (repeat' split)<;>exact⟨by simp,by simp⟩
theorem qo_ (f:Int) {v:g_} (h:v.list=[]):∀p,p∈(L_ f v).props->p.v.list=[]:=by
 unfold L_
 (repeat' split)<;>intro p d<;>simp at d
 ·rw[d];rfl
 ·rw[d];rfl
 ·rcases d with rfl | rfl<;>rfl
 ·rw[d];exact h
theorem oq_ (k:Int) (s:ByteArray) (w:QV):(Instr.build 39 #[(0,QK QU k),(3,QZ s)]).run QW w = .ok (.agg #[QK QU k,XK false,QK QU 0,QZ s,QZ ⟨#[]⟩,QQ QY 0 0]) w:=by kernel_rfl
theorem r8_ {w:QV} {g j:Nat} {c:Array XZ} {T:TypeId} (d:w.heap[g]?=QJ (XX c T (0,0))) (f:j<c.size) (s:ByteArray):(Instr.storeAt 9 (YX (QJ ⟨g,j,QY⟩)) (QZ s)).run QW w = .ok () (w.setCell ⟨g,j,QY⟩ (QZ s)):=by have h1:=QX d j;have h2:=Lib.frozen_of_heap d j;have h:w.cell? ⟨g,j,QY⟩=QJ c[j]:=h1.trans (Array.getElem?_eq_getElem f);go_simp
def oo_ (n:h_) (w:QV) (e:Ending) (w':QV):Prop:=∃A d,e = XW (YY #[.agg (c_ (cc_ n).1 (QQ A 0 d)),XK (cc_ n).2])/\XU w.heap.size w w'
theorem tq_ (d:Int) (L:List ByteArray) (P:List G_) (F:Nat->Prop) (u:Array XZ) (w:QV) (hF:∀b,F b->b<w.heap.size) (hu:NoR w F ⟨d,L,P⟩ u) (hg:aa_ w) (hn:rm_ ⟨d,L,P⟩) :
    Calls QW 78 #[.agg u] w (oo_ ⟨d,L,P⟩ w):=by
 have HU:=q_ hu;have HF:=q_ hF;have HG:=q_ hg;have bc:=q_ hn;obtain⟨_,_,e0,⟨A1,c1,e1,_,bl⟩,⟨A2,Z,e2,_,bm⟩⟩:=hu;subst e1 e2 e0;change SRd 1 TxR w F L A1 L.length at bl;change SRd 7 PaR w F P A2 P.length at bm;obtain⟨n1,I⟩:=a_ L.length;obtain⟨B,y⟩:=a_ P.length;have HL:=q_ (show ∀W:QV,XU w.heap.size w W->SRd 1 TxR W F L A1 n1 from λW hb=>by rw[<-I.o];exact bl.under TxR.good hb hF);have HP:=q_ (show ∀W:QV,XU w.heap.size w W->SRd 7 PaR W F P A2 B from λW hb=>by rw[<-y.o];exact bm.under PaR.good hb hF);change Calls QW 78 #[.agg #[QK QU d,QQ A1 L.length c1,QQ A2 P.length Z]] w (oo_ ⟨d,L,P⟩ w);rw[I.o,y.o];clear bl bm hF hg hn;obtain⟨z,Hz⟩:=a_ w.heap.size;obtain⟨w2,af⟩:=a_ ((w.alloc (XX #[QK QU d,QQ A1 n1 c1,QQ A2 B Z] 72)).alloc (XX #[QK QU 0,XK false,QK QU 0,QZ ⟨#[]⟩,QZ ⟨#[]⟩,QQ QY 0 0] 39));have C:=q_ (show XU w.heap.size w w2 from by rw[<-af.o];exact B_ w _ _);have ag:=q_ (show w2.heap[z]?=QJ (XX #[QK QU d,QQ A1 n1 c1,QQ A2 B Z] 72 (0,0)) from by rw[<-af.o,<-Hz.o];exact heap_alloc2_old w _ _);have au:=q_ (show w2.heap[z+1]?=QJ (XX #[QK QU 0,XK false,QK QU 0,QZ ⟨#[]⟩,QZ ⟨#[]⟩,QQ QY 0 0] 39 (0,0)) from by rw[<-af.o,<-Hz.o];exact heap_alloc2_new w _ _);obtain⟨sh,J⟩:=a_ (kv_ ⟨d,L,P⟩);have x1:w2.cell? ⟨z,1,QY⟩=QJ (QQ A1 n1 c1):=QX ag.o 1;have x2:w2.cell? ⟨z,2,QY⟩=QJ (QQ A2 B Z):=QX ag.o 2;go_enter Tryz.func78,Tryz.ntmps78
 go_upto_region 1 with fail;rw[af.o,Hz.o];clear af;go_cut [43] (λds X=>ds = XK (!sh)/\X=w2)
 case first=>
  by_cases h1:n1=1
  ·subst h1;by_cases h2:B<1
   ·have a1:(B:Int)<1:=by omega
    have U:=q_ (show sh=false from by rw[<-J.o];unfold kv_;simp[I.o,y.o];omega);go_wp2_with fail;go_meet;exact⟨by rw[U.o];rfl,rfl⟩
   ·have a1:¬(B:Int)<1:=by omega
    by_cases h3:2<B
    ·have a2:(2:Int)<B:=by omega
     have U:=q_ (show sh=false from by rw[<-J.o];unfold kv_;simp[I.o,y.o];omega);go_wp2_with fail;go_meet;exact⟨by rw[U.o];rfl,rfl⟩
    ·have a2:¬(2:Int)<B:=by omega
     obtain⟨p,hp⟩:∃p,P[0]?=QJ p:=⟨_,XQ (by rw[y.o];omega)⟩;obtain⟨ad,cp,rfl,dk,_,b2,bq⟩:=(HP.o w2 C.o).at_ hp;obtain⟨Ap,qp,dh⟩:=iu_ bq;have k0:w2.cell? (ad.add 0)=QJ (QZ p.key):=by have:=b2 0 (by omega);rw[dh]at this;exact this
     rw[show ad.add 0=ad from by first | exact Addr.add_zero ad | (cases ad;rfl)]at k0;obtain⟨kp,ah⟩:=a_ p.key;rw[ah.o]at k0;by_cases hk:kp=sV
     ·subst hk;unfold sV at k0;by_cases h4:B=2
      ·subst h4;obtain⟨q,hq⟩:∃q,P[1]?=QJ q:=⟨_,XQ (by rw[y.o];omega)⟩;obtain⟨dg,cq,e5,bn,_,b3,dp⟩:=(HP.o w2 C.o).at_ hq;injection e5 with e5;subst e5;obtain⟨Aq,qq,b0⟩:=iu_ dp;have k1:w2.cell? (ad.add 7)=QJ (QZ q.key):=by have:=b3 0 (by omega);rw[b0]at this;exact this
       obtain⟨kq,bj⟩:=a_ q.key;rw[bj.o]at k1;have k2:w2.cell? ⟨ad.block,ad.off+7,none⟩=some (QZ kq):=k1;by_cases bo:kq=sX
       ·subst bo;unfold sX at k2;have U:=q_ (show sh=true from by rw[<-J.o,gz_ I.o y.o,hp,hq];unfold nt_;simp[ah.o,bj.o]);go_wp2_with fail;go_meet;exact⟨by rw[U.o];rfl,rfl⟩
       ·have t3:(kq.toList==[120])=false:=by have h:=ba_ bo;unfold sX at h;simpa using h
        have U:=q_ (show sh=false from by rw[<-J.o,gz_ I.o y.o,hp,hq];unfold nt_;simp[ah.o,bj.o,bo]);go_wp2_with fail;go_meet;exact⟨by rw[U.o];rfl,rfl⟩
      ·have a4:¬((B:Int)=2):=by omega
       have U:=q_ (show sh=true from by rw[<-J.o,gz_ I.o y.o,hp];unfold nt_;simp[ah.o,h4];omega);go_wp2_with fail;go_meet;exact⟨by rw[U.o];rfl,rfl⟩
     ·have t2:(kp.toList==[118])=false:=by have h:=ba_ hk;unfold sV at h;simpa using h
      have U:=q_ (show sh=false from by rw[<-J.o,gz_ I.o y.o,hp];unfold nt_;simp[ah.o,hk]);go_wp2_with fail;go_meet;exact⟨by rw[U.o];rfl,rfl⟩
  ·have t1:((n1:Int)==1)=false:=by simp;omega
   have U:=q_ (show sh=false from by rw[<-J.o];unfold kv_;simp[I.o,h1]);go_wp2_with fail;go_meet;exact⟨by rw[U.o];rfl,rfl⟩
 case rest=>
  obtain⟨a9,ew⟩:=hcut;rw[ew];clear ew x1 x2
  cases sh with
  | false=>
   have a9:=a9.trans (show Value.bool (!false) = XK true from rfl);subst a9;go_wp2_with ((with_reducible refine y_ 2 ?_);refine r_ rfl 39 _ _ rfl (z+1) (#[QK QU 0,XK false,QK QU 0,QZ ⟨#[]⟩,QZ ⟨#[]⟩,QQ QY 0 0]) (#[QK QU 0,XK false,QK QU 0,QZ ⟨#[]⟩,QZ ⟨#[]⟩,QQ QY 0 0]) 39 rfl rfl au.o rfl lm_ z2_ ?_;intro w3 bw bs)
   have HT:=q_ (show cc_ ⟨d,L,P⟩=(i0_,false) from by unfold cc_;rw[J.o];rfl);refine bodyPost_ret (v:=YY #[.agg #[QK QU 0,XK false,QK QU 0,QZ ⟨#[]⟩,QZ ⟨#[]⟩,QQ QY 0 0],XK false]) (ck_ Tryz.results78 (g:=z+1) rfl bw _ YZ rfl lm_ rfl) rfl ⟨QY,0,by rw[HT.o];rfl,i_ C.o bs (λb e=>by have e:b=z+1:=e;have h2:w.heap.size=z:=Hz.o;omega)⟩
  | true=>
   have a9:=a9.trans (show Value.bool (!true) = XK false from rfl);subst a9;have br:=J.o;rw[gz_ I.o y.o]at br;simp only[YJ,decide_eq_true_eq]at br;obtain⟨co,di,dj,a6,dm⟩:=br;obtain⟨s,hs⟩:∃s,L=[s]:=List.length_eq_one_iff.1 (I.o.trans co)
   obtain⟨p,r,bq⟩:∃p r,P=p::r:=by
    cases P with
    | nil=>have:=y.o;simp at this;omega
    | cons p r=>exact⟨p,r,rfl⟩
   have d7:=q_ (And.intro di dj);subst co hs bq;obtain⟨ad,cp,rfl,dk,_,b2,dn⟩:=(HP.o w2 C.o).at_ (i:=0) (x:=p) rfl;obtain⟨sl,rfl,bu⟩:=dn;obtain⟨vp,T⟩:=v_ p.v sl;have az:=q_ (ad_.trans (congrArg QJ T.size.symm));have ck:=q_ (show vp.all (·.oneCell')=true from by obtain⟨A,M,e,_⟩:=bu.inv;rw[T.o]at e;injection e with e;rw[e];kernel_rfl);have cj:=q_ (λj (hj:j<vp.size)=>(show w2.cell? ((⟨ad.block,ad.off+1,QY⟩:Addr).add j)=vp[j]? from by have h:=b2 (1+j) (by rw[T.size]at hj;omega);rw[ih_ p sl j (by rwa [T.size]at hj),T.o]at h;rw[<-h,Nat.zero_mul,Nat.zero_add];exact congrArg w2.cell? (by rw[show (⟨ad.block,ad.off+1,QY⟩:Addr)=ad.add 1 from rfl,add_of_add])));obtain⟨V,ls,rfl,dl,_,cm,b6⟩:=(HL.o w2 C.o).at_ (i:=0) (x:=s) rfl;have b6:ls=#[QZ s]:=b6;have b5:=cm 0 (by omega);rw[b6]at b5
   have LL:=q_ (λ(W:QV) (hb:XU w2.heap.size w2 W)=>(show W.cell? V=QJ (QZ s) from by
    have e:V.add 0=V:=by first | exact Addr.add_zero V | (cases V;rfl)
    rw[Nat.zero_mul,Nat.zero_add,e]at b5;rw[hb.cell (p:=V) (XY (HF.o _ dl) C.o.size)];exact b5))
   have x2:w2.cell? ⟨z,2,QY⟩=QJ (QQ (QJ ad) B Z):=QX ag.o 2;have a1:(0:Int)<B:=by omega
   clear b2 cm b6 b5 a6 dm;obtain⟨z4,a8⟩:=a_ w2.heap.size;obtain⟨wa,aq⟩:=a_ (w2.alloc (XX #[QK QU 0,XK false,QK QU 0,QZ ⟨#[]⟩,QZ ⟨#[]⟩,QQ QY 0 0] 39));have cy:=q_ (show XU w2.heap.size w2 wa from by rw[<-aq.o];exact (XV _ _).alloc (XJ _) _);have c6:=q_ (show wa.heap[z4]?=QJ (XX #[QK QU 0,XK false,QK QU 0,QZ ⟨#[]⟩,QZ ⟨#[]⟩,QQ QY 0 0] 39 (0,0)) from by rw[<-aq.o,<-a8.o];exact heap_alloc_new w2 _)
   go_upto_region 4 with (first
    | ((with_reducible refine d_ (some 49) ?_);refine E_ (by rfl) 39 _ rfl rfl vp _ cj.o YZ rfl az.o ?_)
    | ((with_reducible refine y_ 4 ?_);rw[aq.o,a8.o];refine r_ rfl 39 _ _ rfl z4 (#[QK QU 0,XK false,QK QU 0,QZ ⟨#[]⟩,QZ ⟨#[]⟩,QQ QY 0 0]) vp 39 rfl rfl c6.o T.size az.o ck.o ?_;intro wb cu cr))
   have bd:=q_ cu;have bx:=q_ (show XU w2.heap.size w2 wb from i_ cy.o cr (λb e=>by have e:b=z4:=e;have h2:w2.heap.size=z4:=a8.o;omega));clear cu cr aq c6 cj x2;obtain⟨z5,av⟩:=a_ wb.heap.size;obtain⟨cx,ar⟩:=a_ (wb.alloc (XX #[QK QU 0,XK false,QK QU 0,QZ ⟨#[]⟩,QZ ⟨#[]⟩,QQ QY 0 0] 39));have cz:=q_ (show XU wb.heap.size wb cx from by rw[<-ar.o];exact (XV _ _).alloc (XJ _) _);have c8:=q_ (show cx.heap[z5]?=QJ (XX #[QK QU 0,XK false,QK QU 0,QZ ⟨#[]⟩,QZ ⟨#[]⟩,QQ QY 0 0] 39 (0,0)) from by rw[<-ar.o,<-av.o];exact heap_alloc_new wb _);go_upto_region 5 with ((with_reducible refine y_ 5 ?_);rw[ar.o,av.o];refine r_ rfl 39 _ _ rfl z5 (#[QK QU 0,XK false,QK QU 0,QZ ⟨#[]⟩,QZ ⟨#[]⟩,QQ QY 0 0]) (#[QK QU 0,XK false,QK QU 0,QZ ⟨#[]⟩,QZ ⟨#[]⟩,QQ QY 0 0]) 39 rfl rfl c8.o rfl lm_ z2_ ?_;intro wd cv ct)
   have ac:=q_ cv;have bz:=q_ (show XU wb.heap.size wb wd from i_ cz.o ct (λb e=>by have e:b=z5:=e;have h2:wb.heap.size=z5:=av.o;omega));have c5:=q_ ((bz.o.block z4 (b_ bd.o)).trans bd.o);have D:=q_ (show XU w2.heap.size w2 wd from bx.o.trans (bz.o.mono bx.o.size));have ae:=q_ ((D.o.block z (b_ ag.o)).trans ag.o);have c9:=q_ ((D.o.block (z+1) (b_ au.o)).trans au.o);have d2:=q_ (show XU w.heap.size w wd from C.o.trans (D.o.mono C.o.size));have O:=q_ (show z4<z5/\z+1<z4/\w.heap.size=z from ⟨by have:=b_ bd.o;have h2:wb.heap.size=z5:=av.o;omega,by have:=b_ au.o;have h2:w2.heap.size=z4:=a8.o;omega,Hz.o⟩);clear cv ct ar c8;have x1:wd.cell? ⟨z,1,QY⟩=QJ (QQ (QJ V) 1 c1):=QX ae.o 1;have l0:=LL.o wd D.o;go_upto_block 0 with fail;obtain⟨o,Ho⟩:=a_ (oj_ s p.v r);obtain⟨tx,ai⟩:=a_ p.v.text;have p3:wd.cell? ⟨z4,3,QY⟩=QJ (QZ tx):=(QX c5.o 3).trans (by rw[<-T.o,<-ai.o];rfl)
   have cd:=q_ (show ∀W:QV,XU w2.heap.size w2 W->VRd W F p.v (.agg vp) from λW hb=>by
    have h:=bu.under hb (λb hb=>XY (HF.o b hb) C.o.size);rwa [T.o]at h)
   clear bu l0;go_cut [55] (λ_ X=>Q_ (∃(A:Option Addr) (M:Nat),X.heap[z5]?=QJ (XX (c_ o (QQ A o.list.length M)) 39 (0,0))/\VRd X F o (.agg (c_ o (QQ A o.list.length M)))/\Turn (λb=>b=z5) wd X))
   case first=>
    have a0:=q_ (show ∀(k:Int) (t:ByteArray) (e:ByteArray) (W:QV),VRd W F (.mk k false 0 t e []) (.agg (c_ (.mk k false 0 t e []) (QQ none 0 0))) from λk t e W=>ks_ W F rfl none 0);by_cases a7:s=I7_
    ·subst a7;have G:=q_ (show o = .mk 8 false 0 tx ⟨#[]⟩ [] from by rw[<-Ho.o,<-ai.o];unfold oj_;rw[if_pos rfl]);unfold I7_
     go_wp2_with (first
      | ((with_reducible refine d_ (some 59) ?_);refine af_ rfl 39 _ rfl #[(0,QK QU 8),(3,QZ tx)] (by kernel_rfl) _ (oq_ _ _ _) ?_)
      | ((with_reducible refine y_ 5 ?_);refine r_ rfl 39 _ _ rfl z5 (#[QK QU 0,XK false,QK QU 0,QZ ⟨#[]⟩,QZ ⟨#[]⟩,QQ QY 0 0]) (#[QK QU 8,XK false,QK QU 0,QZ tx,QZ ⟨#[]⟩,QQ QY 0 0]) 39 rfl rfl ac.o rfl (up_ _ _) (z1_ _ _) ?_;intro we Y N))
     go_meet;exact q_ ⟨QY,0,by rw[G.o];exact Y,by rw[G.o];exact a0.o _ _ _ _,N⟩
    ·have t1:(s.toList==[73,114,105])=false:=by have h:=ba_ a7;unfold I7_ at h;simpa using h
     by_cases ab:s=q7_
     ·subst ab;have G:=q_ (show o = .mk 9 false 0 tx ⟨#[]⟩ [] from by rw[<-Ho.o,<-ai.o];unfold oj_;rw[if_neg (by decide),if_pos rfl]);clear t1 a7;unfold q7_
      go_wp2_with (first
       | ((with_reducible refine d_ (some 64) ?_);refine af_ rfl 39 _ rfl #[(0,QK QU 9),(3,QZ tx)] (by kernel_rfl) _ (oq_ _ _ _) ?_)
       | ((with_reducible refine y_ 5 ?_);refine r_ rfl 39 _ _ rfl z5 (#[QK QU 0,XK false,QK QU 0,QZ ⟨#[]⟩,QZ ⟨#[]⟩,QQ QY 0 0]) (#[QK QU 9,XK false,QK QU 0,QZ tx,QZ ⟨#[]⟩,QQ QY 0 0]) 39 rfl rfl ac.o rfl (up_ _ _) (z1_ _ _) ?_;intro we Y N))
      go_meet;exact q_ ⟨QY,0,by rw[G.o];exact Y,by rw[G.o];exact a0.o _ _ _ _,N⟩
     ·have t2:(s.toList==[66,108,97,110,107])=false:=by have h:=ba_ ab;unfold q7_ at h;simpa using h
      by_cases ak:s=I8_
      ·subst ak;clear t1 t2 a7 ab;unfold I8_
       go_upto_region 12 with (first
        | ((with_reducible refine d_ (some 69) ?_);refine af_ rfl 39 _ rfl #[(0,QK QU 10),(3,QZ tx)] (by kernel_rfl) _ (oq_ _ _ _) ?_)
        | ((with_reducible refine y_ 5 ?_);refine r_ rfl 39 _ _ rfl z5 (#[QK QU 0,XK false,QK QU 0,QZ ⟨#[]⟩,QZ ⟨#[]⟩,QQ QY 0 0]) (#[QK QU 10,XK false,QK QU 0,QZ tx,QZ ⟨#[]⟩,QQ QY 0 0]) 39 rfl rfl ac.o rfl (up_ _ _) (z1_ _ _) ?_;intro we Y N))
       have bh:=q_ Y;have bg:=q_ N;have x2:we.cell? ⟨z,2,QY⟩=QJ (QQ (QJ ad) B Z):=QX ((N.block z (b_ ae.o) (λe=>by have e:z=z5:=e;have:=O.o;omega)).trans ae.o) 2;clear Y N p3
       cases r with
       | nil=>
        have G:=q_ (show o = .mk 10 false 0 tx ⟨#[]⟩ [] from by rw[<-Ho.o,<-ai.o];unfold oj_;rw[if_neg (by decide),if_neg (by decide),if_pos rfl]);have hn:B=1:=y.o.symm;subst hn;go_wp2_with fail;go_meet;exact q_ ⟨QY,0,by rw[G.o];exact bh.o,by rw[G.o];exact a0.o _ _ _ _,bg.o⟩
       | cons q r=>
        have hr:r=[]:=by
         have:=d7.o.2;have:=y.o
         cases r with
         | nil=>rfl
         | cons _ _=>simp at this;omega
        subst hr;have hn:B=2:=y.o.symm;subst hn;obtain⟨tq,ch⟩:=a_ q.v.text;have G:=q_ (show o = .mk 10 false 0 tx tq [] from by rw[<-Ho.o,<-ai.o,<-ch.o];unfold oj_;rw[if_neg (by decide),if_neg (by decide),if_pos rfl]);obtain⟨dg,cq,e5,bn,_,b3,sq,b0,_⟩:=(HP.o w2 C.o).at_ (i:=1) (x:=q) rfl;injection e5 with e5;subst e5
        have k3:we.cell? ⟨ad.block,ad.off+7+1+3,QY⟩=QJ (QZ tq):=by
         have h:=b3 4 (by omega);rw[b0]at h;have h2:(dc_ q sq)[4]?=QJ (QZ tq):=by rw[<-ch.o];rfl
         have cn:=XY (HF.o _ bn) C.o.size;have h3:we.cell? (ad.add 11)=w2.cell? (ad.add 11):=(bg.o.cell (p:=ad.add 11) (by rw[N_];exact XY cn D.o.size) (by rw[N_];intro e;have e:ad.block=z5:=e;have h4:w2.heap.size=z4:=a8.o;have:=O.o;omega)).trans (D.o.cell (by rw[N_];exact cn));exact h3.trans (h.trans h2)
        clear b3 b0 bn;go_wp2_with ((with_reducible refine y_ 80 ?_);refine jo_ rfl 9 _ _ rfl z5 4 (#[QK QU 10,XK false,QK QU 0,QZ tx,QZ ⟨#[]⟩,QQ QY 0 0]) 39 (QZ tq) rfl rfl (r8_ bh.o (by show 4<6;omega) _) bh.o ?_;intro wf dr dq)
        go_meet;exact q_ ⟨QY,0,by rw[G.o];exact dr,by rw[G.o];exact a0.o _ _ _ _,bg.o.trans dq⟩
      ·have t3:(s.toList==[76,105,116])=false:=by have h:=ba_ ak;unfold I8_ at h;simpa using h
       by_cases b7:s=I9_
       ·subst b7;have G:=q_ (show o=p.v from by rw[<-Ho.o];unfold oj_;rw[if_neg (by decide),if_neg (by decide),if_neg (by decide),if_pos rfl]);clear t1 t2 t3 a7 ab ak;unfold I9_
        go_wp2_with (first
         | ((with_reducible refine d_ (some 83) ?_);refine x_ rfl 39 _ rfl z4 0 rfl vp _ (m_ c5.o) YZ rfl az.o ?_)
         | ((with_reducible refine y_ 5 ?_);refine r_ rfl 39 _ _ rfl z5 (#[QK QU 0,XK false,QK QU 0,QZ ⟨#[]⟩,QZ ⟨#[]⟩,QQ QY 0 0]) vp 39 rfl rfl ac.o T.size az.o ck.o ?_;intro we Y N))
        go_meet;obtain⟨A,M,e,_⟩:=(cd.o wd D.o).inv;injection e with e;refine q_ ⟨A,M,by rw[G.o,<-e];exact Y,?_,N⟩;rw[G.o,<-e];exact cd.o we (i_ D.o N (λb e=>by have e:b=z5:=e;have h2:w2.heap.size=z4:=a8.o;have:=O.o.1;omega))
       ·have t4:(s.toList==[86,97,108])=false:=by have h:=ba_ b7;unfold I9_ at h;simpa using h
        have G:=q_ (show o=i0_ from by rw[<-Ho.o];unfold oj_;rw[if_neg a7,if_neg ab,if_neg ak,if_neg b7]);clear a7 ab ak b7;go_wp2_with fail;go_meet;exact q_ ⟨QY,0,by rw[G.o];exact ac.o,by rw[G.o];exact a0.o _ _ _ _,Turn.refl _ _⟩
   case rest=>
    rename QV=>X
    obtain⟨A,M,ba,b9,am⟩:=hcut.o;have du:=q_ am;have ap:=q_ (show XU w.heap.size w X from i_ d2.o am (λb e=>by have e:b=z5:=e;have:=O.o;omega));have ce:=q_ ((am.block z (b_ ae.o) (λe=>by have e:z=z5:=e;have:=O.o;omega)).trans ae.o);have cf:=q_ ((am.block (z+1) (b_ c9.o) (λe=>by have e:z+1=z5:=e;have:=O.o;omega)).trans c9.o);obtain⟨u,Hu⟩:=v_ o (QQ A o.list.length M);rw[Hu.o]at ba b9;have bi:=q_ ba;have dv:=q_ b9;have IU:=q_ (ad_.trans (congrArg QJ Hu.size.symm));have OU:=q_ (show u.all (·.oneCell')=true from by rw[<-Hu.o];kernel_rfl);obtain⟨ko,aw⟩:=a_ o.kind;have k0:X.cell? ⟨z5,0,QY⟩=QJ (QK QU ko):=(QX ba 0).trans (by rw[<-Hu.o,<-aw.o];rfl);have da:=q_ (show M_ o<=10000000000000000 from by rw[<-Ho.o];exact YK (xc_ (bc.o.2.2.2 p (by simp)).2 (λq hq=>(bc.o.2.2.2 q (by simp[hq])).2)) (by decide));have bb:=q_ (d7_ o da.o F (.agg u) X (λb hb=>XY (HF.o b hb) ap.o.size) b9 (k_ HG.o ap.o));unfold p_ at bb;have ci:=q_ (λj (hj:j<u.size)=>(show X.cell? ((⟨z5,0,QY⟩:Addr).add j)=u[j]? from by rw[Addr.add_mid,Nat.zero_add,cell_of_row X z5 j u _ _ bi.o]));obtain⟨mv,ay⟩:=a_ (z_ o 0);rw[ay.o]at bb;obtain⟨aj,a3⟩:=a_ (decide (ko=0\/ko=5\/mv=false));clear hcut ba b9 am;go_upto_region 16 with fail;go_cut [96] (λdt wy=>dt = XK aj/\Q_ (XU X.heap.size X wy))
    case first=>
     by_cases a6:ko=0
     ·subst a6;have HB:=q_ (show aj=true from by rw[<-a3.o];simp);go_wp2_with fail;go_meet;exact⟨by rw[HB.o],q_ (XV _ _)⟩
     ·by_cases b4:ko=5
      ·subst b4;have HB:=q_ (show aj=true from by rw[<-a3.o];simp);clear a6;go_wp2_with fail;go_meet;exact⟨by rw[HB.o],q_ (XV _ _)⟩
      ·have t1:(ko==0)=false:=by simpa using a6
       have t2:(ko==5)=false:=by simpa using b4
       have HB:=q_ (show aj = !mv from by rw[<-a3.o];cases mv<;>simp[a6,b4])
       clear a6 b4;go_wp2_with ((with_reducible refine d_ (some 93) ?_);refine E_ (by rfl) 39 _ rfl rfl u _ ci.o YZ rfl IU.o ?_)
       refine bb.o.mono ?_;rintro e wy ⟨rfl,hb⟩;have HY:=q_ hb;clear hb;go_wp2_with fail;go_meet;exact⟨by rw[HB.o],HY⟩
    case rest=>
     rename QV=>wy
     obtain⟨cl,aa⟩:=hcut;have dw:=q_ aa.o;have c4:=q_ (ap.o.trans (aa.o.mono ap.o.size));have df:=q_ ((aa.o.block z (b_ ce.o)).trans ce.o);have cg:=q_ ((aa.o.block (z+1) (b_ cf.o)).trans cf.o);have de:=q_ ((aa.o.block z5 (b_ bi.o)).trans bi.o);clear aa k0 ci
     cases aj with
     | true=>
      subst cl;have HT:=q_ (show cc_ ⟨d,[s],p::r⟩=(i0_,false) from by unfold cc_;rw[J.o,if_pos rfl,show ly_ ⟨d,[s],p::r⟩=o from Ho.o,aw.o,ay.o,if_pos (of_decide_eq_true a3.o)]);go_wp2_with ((with_reducible refine y_ 2 ?_);refine r_ rfl 39 _ _ rfl (z+1) (#[QK QU 0,XK false,QK QU 0,QZ ⟨#[]⟩,QZ ⟨#[]⟩,QQ QY 0 0]) (#[QK QU 0,XK false,QK QU 0,QZ ⟨#[]⟩,QZ ⟨#[]⟩,QQ QY 0 0]) 39 rfl rfl cg.o rfl lm_ z2_ ?_;intro w3 bw bs)
      refine bodyPost_ret (v:=YY #[.agg #[QK QU 0,XK false,QK QU 0,QZ ⟨#[]⟩,QZ ⟨#[]⟩,QQ QY 0 0],XK false]) (ck_ Tryz.results78 (g:=z+1) rfl bw _ YZ rfl lm_ rfl) rfl ⟨QY,0,by rw[HT.o];rfl,i_ c4.o bs (λb e=>by have e:b=z+1:=e;have:=O.o.2.2;omega)⟩
     | false=>
      subst cl;have b1:=of_decide_eq_false a3.o;have d6:=q_ (show mv=true from by cases mv with | true=>rfl | false=>exact absurd (.inr (.inr rfl)) b1);have bf:=q_ (show o.list=[] from ss_ (by rw[ay.o];exact d6.o) (by rw[aw.o];exact λe=>b1 (.inr (.inl e))));have HT:=q_ (show cc_ ⟨d,[s],p::r⟩=(o,fq_ (L_ d o) ⟨d,[s],p::r⟩) from by unfold cc_;rw[J.o,if_pos rfl,show ly_ ⟨d,[s],p::r⟩=o from Ho.o,aw.o,ay.o,if_neg b1]);clear b1;have cc:=q_ (show c_ o (QQ A 0 M)=u from by rw[<-Hu.o,bf.o];rfl);have bp:=λW:QV=>st_ d o bf.o A M W;rw[cc.o]at bp;have d8:=q_ bp;have bt:=HU.o;rw[y.o]at bt;have dc:=q_ (show NoR w F ⟨d,[s],p::r⟩ #[QK QU d,QQ (some V) 1 c1,QQ (some ad) B Z] from bt);obtain⟨q,Hq⟩:=a_ (fq_ (L_ d o) ⟨d,[s],p::r⟩);rw[Hq.o]at HT;clear bp bt;go_upto_region 18 with fail;obtain⟨we,bk⟩:=a_ wy.drew;have c0:=q_ (show XU w.heap.size w we from by rw[<-bk.o];exact c4.o.drew);have ca:=q_ (show we.heap[z+1]?=some (XX #[QK QU 0,XK false,QK QU 0,QZ ⟨#[]⟩,QZ ⟨#[]⟩,QQ none 0 0] 39 (0,0)) from by rw[<-bk.o];exact cg.o);refine wp_region_held_drew (S:=λW:QV=>W.heap[z5]?=some (Obj.cells u 39 (0,0))/\W.heap[z]?=some (Obj.cells #[QK QU d,QQ (some V) 1 c1,QQ (some ad) B Z] 72 (0,0))) (by kernel_rfl) ⟨de.o,df.o⟩ λf=>?_;refine P_.o ?_;rw[bk.o]at f ⊢;refine tlW 0 98 (.agg u) f (λw a5=>?_) λf=>?_
      ·exact n_ (a6_ a5.1 39 _ YZ rfl IU.o)
      refine C_ 1 99 (YX (QJ ⟨z,0,QY⟩)) f λf=>?_;refine tlW 2 100 (QK QU d) f (λw a5=>?_) λf=>?_
      ·have p:w.cell? ⟨z,0,QY⟩=QJ (QK QU d):=QX a5.2 0;unfold H_;go_simp
      refine tlW 3 101 (.agg u) f (λw a5=>?_) λf=>?_
      ·exact n_ (a6_ a5.1 39 _ YZ rfl IU.o)
      refine tlW 5 103 (.agg (#[QK QU d,QQ (QJ V) 1 c1,QQ (QJ ad) B Z])) f (λw a5=>?_) λf=>?_
      ·exact n_ (a6_ a5.2 72 _ Tryz.underlying72 rfl qd_)
      refine tlC 4 λK hK=>?_;go_simp;refine (d8.o _).mono ?_;unfold k1_;rintro e wf ⟨LL,PP,rfl,hl,hp,hb⟩;have d9:=q_ (show NoR wf (λb=>we.heap.size<=b/\b<wf.heap.size) (L_ d o) (#[QK QU d,LL,PP]) from ⟨_,_,by rw[bn_],hl,hp⟩);have d3:=q_ (show wf.heap[z5]?=QJ (Obj.cells u 39 (0,0))/\wf.heap[z]?=QJ (Obj.cells #[QK QU d,QQ (QJ V) 1 c1,QQ (QJ ad) B Z] 72 (0,0)) from ⟨(hb.block z5 (b_ f.1)).trans f.1,(hb.block z (b_ f.2)).trans f.2⟩);have cb:=q_ ((hb.block (z+1) (b_ ca.o)).trans ca.o);have ao:=q_ (c0.o.trans (hb.mono c0.o.size));clear hl hp hb;dsimp only;refine tlB hK d3.o λf=>?_;clear hK K;refine tlC 6 λK hK=>?_;go_simp;refine (ta_ (L_ d o) ⟨d,[s],p::r⟩ (λb=>we.heap.size<=b/\b<wf.heap.size) F _ _ wf (λb h=>h.2) (λb h=>XY (HF.o b h) ao.o.size) d9.o (NoR.good.keep dc.o (λa ha=>ao.o.cell (HF.o _ ha))) (nc_ d o) (qo_ d bf.o)).mono ?_;unfold p_;rw[Hq.o];rintro e wg ⟨rfl,hb⟩;have d4:=q_ (show wg.heap[z5]?=QJ (Obj.cells u 39 (0,0))/\wg.heap[z]?=QJ (Obj.cells #[QK QU d,QQ (QJ V) 1 c1,QQ (QJ ad) B Z] 72 (0,0)) from ⟨(hb.block z5 (b_ f.1)).trans f.1,(hb.block z (b_ f.2)).trans f.2⟩);have db:=q_ ((hb.block (z+1) (b_ cb.o)).trans cb.o);have d0:=q_ (ao.o.trans (hb.mono ao.o.size));clear hb;dsimp only;refine tlB hK d4.o λf=>?_;clear hK K;refine tlC 7 λK hK=>?_;refine e5_ 39 _ _ rfl (z+1) (#[QK QU 0,XK false,QK QU 0,QZ ⟨#[]⟩,QZ ⟨#[]⟩,QQ QY 0 0]) u 39 rfl rfl db.o Hu.size IU.o OU.o λwh cw b8=>?_;have dd:=q_ cw;have d1:=q_ (show XU w.heap.size w wh from i_ d0.o b8 (λb e=>by have e:b=z+1:=e;have:=O.o.2.2;omega));have d5:=q_ (show wh.heap[z5]?=QJ (Obj.cells u 39 (0,0))/\wh.heap[z]?=QJ (Obj.cells #[QK QU d,QQ (QJ V) 1 c1,QQ (QJ ad) B Z] 72 (0,0)) from ⟨(b8.block z5 (b_ f.1) (λe=>by have e:z5=z+1:=e;have:=O.o;omega)).trans f.1,(b8.block z (b_ f.2) (λe=>by have e:z=z+1:=e;omega)).trans f.2⟩);clear cw b8;refine tlB hK d5.o λf=>?_;clear hK K;refine C_ 8 3 (XK q) f λf=>?_;refine⟨wpAnyH_done (by kernel_rfl) ?_ _⟩;clear f;go_wp2_with fail;refine bodyPost_ret (v:=YY #[.agg u,XK q]) (ck_ Tryz.results78 (g:=z+1) rfl dd.o _ YZ rfl IU.o rfl) rfl ⟨A,M,by rw[HT.o,cc.o],d1.o⟩
end
section
open Go Go.RowKit Go.Maps Go.WideMaps Go.WideElems Go.MapKept Go.ChangeMaps
theorem H3_ {P:Program} {ops:Array Oper} {rest:List Oper} {op:Oper} {a:Act} {w:QV} {Q:Exit->Act->QV->Prop} (d:op.guard=QY) (ty:TypeId) (x y:Operand) (o:op.op = .lookup ty x y false) (g f:XZ) (q:a.eval x=g) (r:a.eval y=f) (v:XZ) (p:(Instr.lookup ty g f false).run P w = .ok v w) (h:wpList P ops Q rest (a.put op.dst v) w):wpList P ops Q (op::rest) a w:=
 wpList_plain d λ_ j=>by
  unfold Oper.wp execOp;simp only[o,q,r,Sem.run_bind,Sem.run_pure,p,Result.andThen_ok];exact j _ _ h
theorem Nl_ {P:Program} {ops:Array Oper} {rest:List Oper} {op:Oper} {a:Act} {w:QV} {Q:Exit->Act->QV->Prop} (f:op.guard=QY) (ty:TypeId) (x y z:Operand) (p:op.op = .mapUpdate ty x y z) (j g d:XZ) (r:a.eval x=j) (u:a.eval y=g) (hz:a.eval z=d) (w':QV) (q:(Instr.mapUpdate ty j g d).run P w = .ok () w') (h:wpList P ops Q rest (a.put op.dst undef) w'):wpList P ops Q (op::rest) a w:=
 wpList_plain f λ_ o=>by
  unfold Oper.wp execOp;simp only[p,r,u,hz,Sem.run_bind,Sem.run_pure,q,Result.andThen_ok];exact o _ _ h
theorem Lg_ (w:QV):(Instr.makeMap 134 QY).run QW w = .ok (.map (QJ w.heap.size)) (w.alloc (.map #[] 0)):=by kernel_rfl
def StM (w:QV) (m:Nat) (l:List (Int×XZ)):Prop:=∃(es:Array MapEntry) (clock:Nat),w.heap[m]?=QJ (.map es clock)/\es.toList.map (λe=>(e.key,e.val))=l.map (λp=>(Value.int QU p.1,p.2))/\(∀p,p∈l->VI p.1)/\(l.map (·.1)).Nodup
def nu_ (l:List (Int×XZ)) (i:Int):XZ:=match l.find? (λp=>decide (p.1=i)) with | some p=>p.2 | none=>.agg #[QK QU 0,XK false,QK QU 0,QZ ⟨#[]⟩,QZ ⟨#[]⟩,QQ none 0 0]
theorem StM.fresh {w:QV} {m:Nat} (h:w.heap[m]?=some (.map #[] 0)):StM w m []:=⟨#[],0,h,rfl,(λ_ h=>by cases h),List.nodup_nil⟩
theorem StM.lt {w:QV} {m:Nat} {l:List (Int×XZ)} (h:StM w m l):m<w.heap.size:=by obtain⟨es,clock,hb,_⟩:=h;exact b_ hb
theorem StM.turn {w w':QV} {m:Nat} {l:List (Int×XZ)} {S:Nat->Prop} (h:StM w m l) (ht:Turn S w w') (d:¬S m):StM w' m l:=by obtain⟨es,clock,hb,h2⟩:=h;exact⟨es,clock,(ht.block m (b_ hb) d).trans hb,h2⟩
theorem StM.on {w w':QV} {m:Nat} {l:List (Int×XZ)} (h:StM w m l) (hb:XU w.heap.size w w'):StM w' m l:=
 h.turn (Turn.of_below hb) (λe=>by have:=h.lt;omega)
section
variable {w:QV} {m:Nat} {l:List (Int×XZ)} {i:Int}
theorem Bd_ {es:List MapEntry} (h:es.map (λe=>(e.key,e.val))=l.map (λp=>(Value.int QU p.1,p.2))) (j:∀p,p∈l->VI p.1):∀e,e∈es->∃q,keyOf QW 2 e.key=QJ q:=λe f=>by
 have h1:(e.key,e.val)∈l.map (λp=>(Value.int QU p.1,p.2)):=by rw[<-h];exact List.mem_map.2 ⟨e,f,rfl⟩
 obtain⟨p,g,d⟩:=List.mem_map.1 h1;injection d with d _;exact⟨iq_ p.1,by rw[<-d];exact keyOf_int_mk Tryz.underlying2 (j p g)⟩
theorem C6_ {es:List MapEntry} (h:es.map (λe=>(e.key,e.val))=l.map (λp=>(Value.int QU p.1,p.2))) (j:∀e,e∈es->e.key ≠ QK QU i):∀p,p∈l->p.1≠i:=λp o f=>by
 have h1:((Value.int QU p.1,p.2):XZ×XZ)∈es.map (λe=>(e.key,e.val)):=by rw[h];exact List.mem_map.2 ⟨p,o,rfl⟩
 obtain⟨e,g,d⟩:=List.mem_map.1 h1;injection d with d _;exact j e g (by rw[d,f])
theorem C7_ {es:List MapEntry} {j:Nat} {e:MapEntry} (h:es.map (λe=>(e.key,e.val))=l.map (λp=>(Value.int QU p.1,p.2))) (D:es[j]?=QJ e) (F:e.key = QK QU i) (C:(l.map (·.1)).Nodup):nu_ l i=e.val:=by
 have h1:(l.map (λp=>((Value.int QU p.1,p.2):XZ×XZ)))[j]?=QJ (QK QU i,e.val):=by rw[<-h,List.getElem?_map,D];simp[F]
 rw[List.getElem?_map]at h1
 cases hl:l[j]? with
 | none=>rw[hl]at h1;cases h1
 | some p=>
  rw[hl]at h1;simp only[Option.map_some,Option.some.injEq,Prod.mk.injEq,Value.int.injEq,true_and]at h1;have v:=YQ hl;unfold nu_
  cases hf:l.find? (λp=>decide (p.1=i)) with
  | none=>
   have:=List.find?_eq_none.1 hf p v;simp[h1.1]at this
  | some q=>
   have f:=List.find?_some hf;have B:=List.mem_of_find?_eq_some hf;have f:q.1=i:=by simpa using f
   obtain⟨k,o,r⟩:=List.mem_iff_getElem.1 B;obtain⟨g,u⟩:=List.getElem?_eq_some_iff.1 hl
   have x:k=j:=by
    have y:=List.pairwise_iff_getElem.1 C;have d:∀(a:Nat) (h:a<(l.map (·.1)).length),(l.map (·.1))[a]=(l[a]'(by simpa using h)).1:=λa h=>List.getElem_map ..;rcases Nat.lt_trichotomy k j with h | h | h
    ·exact absurd (by rw[d,d,r,u,f,h1.1]) (y k j (by simpa using o) (by simpa using g) h)
    ·exact h
    ·exact absurd (by rw[d,d,r,u,f,h1.1]) (y j k (by simpa using g) (by simpa using o) h)
   subst x;have:q=p:=by rw[<-r,<-u]
   rw[this];exact h1.2
theorem Jz_ (w:QV):(zeroValue 39).run QW w = .ok (.agg #[QK QU 0,XK false,QK QU 0,QZ ⟨#[]⟩,QZ ⟨#[]⟩,QQ QY 0 0]) w:=by kernel_rfl
theorem tk_ (h:StM w m l) (hi:VI i):(Instr.lookup 134 (.map (QJ m)) (QK QU i) false).run QW w = .ok (nu_ l i) w:=by
 obtain⟨es,clock,hb,f,u,o⟩:=h;have d:=keyOf_int_mk Tryz.underlying2 hi;rcases uq_.find w d es.toList (Bd_ f u) with⟨h1,h2⟩ | ⟨j,e0,h1,h2,g⟩
 ·have q:=C6_ f h2;have hz:nu_ l i = .agg #[QK QU 0,XK false,QK QU 0,QZ ⟨#[]⟩,QZ ⟨#[]⟩,QQ QY 0 0]:=by unfold nu_;rw[List.find?_eq_none.2 (λp r=>by simpa using q p r)]
  rw[hz];simp[Instr.lookup,run_underlying Tryz.underlying134,MapKept.run_getObj_map hb,uq_.check w _ d,h1,Jz_ w,Result.andThen]
 ·rw[C7_ f h2 g o];simp[Instr.lookup,run_underlying Tryz.underlying134,MapKept.run_getObj_map hb,uq_.check w _ d,h1,Result.andThen]
theorem Et_ (h:StM w m l) (hi:VI i) (r:i∉l.map (·.1)) (v:XZ):∃w',(Instr.mapUpdate 134 (.map (QJ m)) (QK QU i) v).run QW w = .ok () w'/\StM w' m (l++[(i,v)])/\Turn (λb=>b=m) w w':=by
 obtain⟨es,clock,hb,o,x,C⟩:=h;have g:=keyOf_int_mk Tryz.underlying2 hi;rcases uq_.find w g es.toList (Bd_ o x) with⟨h1,h2⟩ | ⟨j,e0,h1,h2,y⟩
 ·refine⟨setBlock w m (.map (es.push ⟨QK QU i,v,clock⟩) (clock+1)),?_,⟨es.push ⟨QK QU i,v,clock⟩,clock+1,?_,?_,?_,?_⟩,?_⟩
  ·simp[Instr.mapUpdate,run_underlying Tryz.underlying134,MapKept.run_getObj_map hb,uq_.check w false g,h1,MapKept.run_setObj_map _ hb,Result.andThen,setBlock]
  ·unfold setBlock;simp[b_ hb]
  ·rw[Array.toList_push,List.map_append,List.map_append,o];rfl
  ·intro p f;rcases List.mem_append.1 f with f | f
   ·exact x p f
   ·rw[List.mem_singleton.1 f];exact hi
  ·rw[List.map_append];refine List.nodup_append.2 ⟨C,by simp,λa B c q d=>?_⟩;simp only[List.map_cons,List.map_nil,List.mem_singleton]at q;exact r (by rw[<-q,<-d];exact B)
  ·refine⟨rfl,rfl,rfl,by unfold setBlock;simp,λb F u=>?_⟩;unfold setBlock;exact Array.getElem?_setIfInBounds_ne λe=>u e.symm
 ·exfalso;have D:((Value.int QU i,e0.val):XZ×XZ)∈l.map (λp=>(Value.int QU p.1,p.2)):=by rw[<-o];exact List.mem_map.2 ⟨e0,YQ h2,by rw[y]⟩
  obtain⟨p,f,d⟩:=List.mem_map.1 D;injection d with d _;injection d with _ d;exact r (List.mem_map.2 ⟨p,f,d⟩)
end
end
end Go.Proofs.YtefhfadjajcmkaaGreatDoor
