/- What a script, a list of triples in memory read as: printed by gen_Y3.py. -/
import Derived.Test.YtefhfadjajcmkaaGreatDoorO9
import Derived.Test.YtefhfadjajcmkaaGreatDoorBulk
import Derived.Deep.Slices
import Derived.Lib.SmallJoins
set_option linter.unusedVariables false
set_option linter.unusedSimpArgs false
set_option maxRecDepth 100000
set_option maxHeartbeats 64000000
namespace Go.Proofs.YtefhfadjajcmkaaGreatDoor
open _root_.Go.Proofs.Tryz
open Go.Act renaming put→VK
open Go.Instr renaming buildSlice→UQ
open Go.IntWalk renaming i64_in→YU
open Go.Ending renaming returned→YQ
open Go.RowKit renaming Below→XW
open Go.RowKit.Below renaming refl→XV
open Nat renaming lt_of_lt_of_le→XZ,le_refl→XK,le_trans→ZX,zero_add→VQ,lt_or_ge→VZ
open Go.Obj renaming cells→XX
open List renaming getElem?_eq_getElem→XQ,mem_of_getElem?→YZ,take_of_length_le→YJ,length_append→ZZ,getElem?_eq_none→ZK,length_take→UJ,mem_cons_self→VJ
open _root_.Go.Proofs.Tryz renaming prog→QW,underlying39→YV
open Go renaming World→QV,Value→XJ,heap_alloc_new→XU,bodyPost_ret→ZV,wp_region_held_drew→UZ,wpAnyH_done→VX
open Go.IntKind renaming i64→QU
open Option renaming some→QJ,none→QK
open Go.Lib renaming cell_of_heap→QX
open Go.Value renaming slice→QQ,string→QZ,int→QY,bool→XY,pointer→YK,tuple→ZJ
open Go.Lib (cell_of_heap)
section
open Go Go.RowKit Go.Maps
def wkO:g_:=.mk 2 false 5 ⟨#[]⟩ ⟨#[]⟩ []
def wkM:e_:=⟨ou_ ⟨#[97]⟩,ou_ ⟨#[112]⟩,wkO⟩
theorem vv_:∀t,t∈[wkM]->OkT t:=λt ht=>by
 rw[List.mem_singleton.1 ht];exact⟨⟨by decide,by decide,by decide⟩,⟨by decide,by decide,by decide⟩,⟨by decide,by decide,by decide⟩⟩
theorem vu_:[wkM].all ch_=true:=by decide
theorem y7_:cj_ wkM:=bx_ (List.all_eq_true.1 vu_ wkM (List.mem_singleton.2 rfl)) (vv_ wkM (List.mem_singleton.2 rfl))
theorem y6_:an_ (s_ (aa_ 0)) [wkM]=[wkM]:=by have h:=ct_ (az_ (aa_ 0)) (l:=[wkM]) (λa c b hb _=>by rw[List.mem_singleton.1 c,List.mem_singleton.1 hb]);exact i4_ (az_ _) h.1 (List.pairwise_singleton _ _) h.2
theorem f4_:be_ [wkM]:=by have h:=B0_ (L:=[wkM]) (by decide) vu_ vv_;rwa [y6_]at h
theorem J1_:(ab_ [wkM]).length=2:=by
 have h1:(ab_ [wkM]).length<=2:=fi_ y_ (dh_ [wkM]);have b:=f4_.mem wkM (List.mem_singleton.2 rfl)
 have c:wkM.s≠wkM.o:=by
  intro e;have:=congrArg g_.kind e;revert this
  decide
 have h2:2<=(ab_ [wkM]).length:=by
  match hv:ab_ [wkM],b with
  | [],b=>exact absurd b.1 (by simp)
  | [a],b=>exact absurd ((List.mem_singleton.1 b.1).trans (List.mem_singleton.1 b.2).symm) c
  | _::_::_,_=>simp
 omega
theorem Fl_:(bn_ [wkM]).nodes.length=2:=by show ((ab_ [wkM]).mapIdx (λi v=>U_ ((i:Nat):Int) v)).length=2;rw[List.length_mapIdx,J1_]
theorem Fk_:∃a b,(bn_ [wkM]).edges=[⟨0,a,b,⟨#[112]⟩,[]⟩]:=⟨_,_,rfl⟩
theorem Nf_ (W:QV):(Instr.build 39 #[(0,QY QU 2),(2,QY QU 5)]).run QW W = .ok (.agg (c_ wkO (QQ QK 0 0))) W:=by kernel_rfl
theorem Ne_ (W:QV):(Instr.build 41 #[(0,.agg (c_ (irV ⟨#[97]⟩) (QQ QK 0 0))),(1,.agg (c_ (irV ⟨#[112]⟩) (QQ QK 0 0))),(2,.agg (c_ wkO (QQ QK 0 0)))]).run QW W = .ok (.agg (N_ wkM va_)) W:=Gh_ wkM W
theorem Bd_ (w:QV) (ae:ad_ w) (af:ci_ w):Calls QW 24 #[] w (n_ true w):=by
 have U:=q_ (And.intro ae af);clear ae af;obtain⟨ua,Ha⟩:=L_ (irV ⟨#[97]⟩) (QQ QK 0 0);obtain⟨up,Hp⟩:=L_ (irV ⟨#[112]⟩) (QQ QK 0 0);obtain⟨X,Ho⟩:=L_ wkO (QQ QK 0 0);obtain⟨r,A⟩:=ba_ wkM va_;have au:=q_ (λW:QV=>(show (Instr.build 41 #[(0,.agg ua),(1,.agg up),(2,.agg X)]).run QW W = .ok (.agg r) W from by rw[<-Ha.o,<-Hp.o,<-Ho.o,<-A.o];exact Ne_ W));have aq:=q_ (λW:QV=>(show (Instr.build 39 #[(0,QY QU 2),(2,QY QU 5)]).run QW W = .ok (.agg X) W from by rw[<-Ho.o];exact Nf_ W));have ZR:=q_ A.size;have ao:=q_ (show dx_ r wkM from ⟨lu_ y7_ (λn=>((vv_ wkM (List.mem_singleton.2 rfl)).get n).fit),va_,λi _=>⟨QK,0,rfl⟩,A.o.symm⟩);clear A;go_enter func24,ntmps24
 go_wp2_with fail;refine (xi_ _ _).mono ?_;unfold t8_;rintro e w1 ⟨rfl,hb⟩;have Z:=q_ hb;clear hb;rw[Ha.o];go_wp2_with fail;refine (xi_ _ _).mono ?_;unfold t8_;rintro e w2 ⟨rfl,hb⟩;have E:=q_ (Z.o.trans (hb.mono Z.o.size));clear hb;rw[Hp.o];obtain⟨f,q⟩:=a_ w2.heap.size;obtain⟨l,m⟩:=a_ (w2.alloc (XX r 41));have z:=q_ (show XW w.heap.size w l from by rw[<-m.o];exact E.o.alloc E.o.size _);have ak:=q_ (show (UQ 22 1 #[(0,.agg r)]).run QW w2 = .ok (QQ (QJ ⟨f,0,QK⟩) 1 1) l from by rw[<-q.o,<-m.o];exact jc_ r ZR.o w2)
 have J:=q_ (show f<l.heap.size/\w.heap.size<=f from ⟨by
  have h:l.heap[f]?=QJ (XX r 41 (0,0)):=by rw[<-m.o,<-q.o];exact XU w2 _
  exact b_ h,by rw[<-q.o];exact E.o.size⟩)
 have a9:=q_ (show SRd 18 TrR l (λb=>b=f) [wkM] (QJ ⟨f,0,QK⟩) 1 from by have h:=(no_ T_ ao.o w2 41).imp (R':=TrR) (λ_ h=>h) (λt c h=>dx_.trR h _ _);rw[<-m.o,<-q.o];exact h);clear m q
 go_wp2_with (first
  | ((with_reducible refine d_ (some 8) ?_);refine W_ rfl 39 _ rfl #[(0,QY QU 2),(2,QY QU 5)] (by kernel_rfl) (.agg X) (aq.o _) ?_)
  | ((with_reducible refine d_ (some 9) ?_);refine W_ rfl 41 _ rfl #[(0,.agg ua),(1,.agg up),(2,.agg X)] (by kernel_rfl) (.agg r) (au.o _) ?_)
  | ((with_reducible refine d_ (some 10) ?_);refine ul_ rfl 22 1 _ rfl #[(0,.agg r)] (by kernel_rfl) (QQ (QJ ⟨f,0,QK⟩) 1 1) l ak.o ?_))
 refine (nj_ [wkM] vv_ (λb=>b=f) (QJ ⟨f,0,QK⟩) 1 1 l (λg hg=>by have hg:g=f:=hg;rw[hg];exact J.o.1) a9.o (by omega) (j_ U.o.1 z.o) (K_ U.o.2 z.o)).mono ?_;unfold he_;rintro e k (⟨aw,_⟩ | ⟨_,_,GN,GE,rfl,R,hb⟩)
 ·exact absurd ⟨by decide,vu_⟩ aw
 rw[y6_]at R;have a4:=q_ R;obtain⟨N',E',e,⟨AN,cN,eN,_,_⟩,⟨AE,cE,eE,_,hE⟩⟩:=R;rw[Fl_]at eN;subst eN;subst eE;injection e with e;have e3:=congrArg (λa:Array XJ=>a[0]?) e;have e4:=congrArg (λa:Array XJ=>a[1]?) e;simp at e3 e4;subst e3;subst e4;have a7:=q_ hb;have a1:=q_ (z.o.trans (hb.mono z.o.size));clear hb e;obtain⟨v,M⟩:=a_ k.heap.size;obtain⟨wa,B⟩:=a_ (k.alloc (XX #[QQ QK 0 0,QQ QK 0 0] 54));have a0:=q_ (show XW k.heap.size k wa from by rw[<-B.o];exact (XV _ _).alloc (XK _) _);have a5:=q_ (show wa.heap[v]?=QJ (XX #[QQ QK 0 0,QQ QK 0 0] 54 (0,0)) from by rw[<-B.o,<-M.o];exact XU k _);obtain⟨a,b,O⟩:=Fk_;obtain⟨nE,C⟩:=a_ (bn_ [wkM]).edges.length;have L:=q_ (show nE=1 from by rw[<-C.o,O];rfl);have av:=hE.at_ (i:=0) (x:=⟨0,a,b,⟨#[112]⟩,[]⟩) (by rw[O];rfl);rw[C.o,L.o]at a4;rw[C.o,L.o];obtain⟨ad,ce,rfl,ac,ay,aa,ab⟩:=av;have ap:=q_ ac;have am:=q_ (show k.cell? (ad.add (0*5+3))=QJ (QZ ⟨#[112]⟩) from by rw[aa 3 (by omega)];obtain⟨_,e,_⟩:=ab;rw[e];rfl);clear hE O ac ay aa ab C L;go_upto_region 3 with ((with_reducible refine w_ 2 ?_);rw[B.o,M.o];refine o_ rfl 54 _ _ rfl v (#[QQ QK 0 0,QQ QK 0 0]) (#[QQ AN 2 cN,QQ (QJ ad) 1 cE]) 54 rfl rfl a5.o rfl (P_ _ _) (cz_ _ _ _ _ _ _) ?_;intro Y ai ah)
 have j:=q_ (show XW k.heap.size k Y from h_ a0.o ah (λb e=>by have e:b=v:=e;have h2:k.heap.size=v:=M.o;omega));have y:=q_ (a1.o.trans (j.o.mono a1.o.size));have I:=q_ ai;clear ai ah B a5 a0;go_wp2_with ((with_reducible refine d_ (some 17) ?_);refine G_ rfl 54 _ rfl v 0 rfl (#[QQ AN 2 cN,QQ (QJ ad) 1 cE]) _ (m_ I.o) underlying54 rfl (P_ _ _) ?_)
 refine (vr_ (bn_ [wkM]) f4_.fit (λb=>l.heap.size<=b/\b<k.heap.size) _ Y (λb h=>XZ h.2 j.o.size) (a4.o.under j.o (λb h=>h.2)) f4_.num (j_ U.o.1 y.o) (K_ U.o.2 y.o)).mono ?_;unfold sf_;rintro e u ⟨hb,D⟩
 obtain⟨s,rfl,S⟩:∃s,e = YQ (ZJ #[s,QY QU 0])/\x_ 41 18 TrR u (λb=>Y.heap.size<=b/\b<u.heap.size) [wkM] s:=by
  rcases D with⟨h,_⟩ | ⟨_,G,hp,D⟩
  ·rw[f4_.graph]at h
   cases h
  ·have he:=f4_.plain hp;subst he;rcases D with⟨h,_⟩ | ⟨T,s,V,e,ho⟩
   ·rw[f4_.back]at h
    cases h
   ·rw[f4_.back]at V;injection V with V;subst V;exact⟨s,e,ho⟩
 obtain⟨As,cs,es,_,ag⟩:=S.rd TrR.good;have es:s = QQ As 1 cs:=es;subst es;have a2:=q_ (y.o.trans (hb.mono y.o.size));have F:=q_ (j.o.trans (hb.mono j.o.size));have ar:=q_ (show SRd 18 TrR u (λb=>Y.heap.size<=b/\b<u.heap.size) [wkM] As 1 from ag);have a6:=q_ ((hb.block v (b_ I.o)).trans I.o);have x0:u.cell? ⟨v,0,QK⟩=QJ (QQ AN 2 cN):=QX a6.o 0;have x1:u.cell? ⟨v,1,QK⟩=QJ (QQ (QJ ad) 1 cE):=QX a6.o 1;have x3:u.cell? ⟨ad.block,ad.off+3,QK⟩=QJ (QZ ⟨#[112]⟩):=by have h:=(F.o.cell (p:=ad.add (0*5+3)) (by rw[A_];exact ap.o.2)).trans am.o;exact h
 have a8:=q_ (show XW l.heap.size l u from a7.o.trans (F.o.mono a7.o.size));have P:=wy_ (ca:=cs) (cb:=1) ar.o (a9.o.under TrR.good a8.o (λb h=>by have h:b=f:=h;rw[h];exact J.o.1)) (λb h=>h.2) (λb h=>by have h:b=f:=h;rw[h];exact XZ J.o.1 a8.o.size) (by omega) (λt ht i=>by rw[List.mem_singleton.1 ht,g8_ (y7_.get i)];decide);rw[hy_.2 rfl]at P;have a3:=q_ P;unfold n_ at a3;clear P hb D S ag;go_wp2_with fail;refine a3.o.mono ?_;rintro e w8 ⟨rfl,hb⟩;have aj:=q_ (a2.o.trans (hb.mono a2.o.size));clear hb;go_wp2_with fail;go_ret;exact⟨rfl,aj.o⟩
structure GnR (w2:QV) (zg:Nat) (ns:List i_) (N:XJ) (wx:QV):Prop where
 t:Turn (λi=>zg<=i) w2 wx
 box:wx.heap[zg]?=QJ (XX #[N,QQ QK 0 0] 54 (0,0))
 own:x_ 72 3 NoR wx (λb=>zg<b/\b<wx.heap.size) ns N
section
variable {w2 wx w':QV} {zg:Nat} {ns:List i_} {N:XJ}
theorem GnR.on (h:GnR w2 zg ns N wx) (hb:XW wx.heap.size wx w'):GnR w2 zg ns N w':=
 ⟨h.t.trans (Turn.ofB hb),(hb.block zg (b_ h.box)).trans h.box,(h.own.turn NoR.good (Turn.of_below hb) (λb hb=>hb.2) (λb hb e=>by have e:wx.heap.size<=b:=e;have:=hb.2;omega)).mono NoR.good (λb k=>⟨k.1,XZ k.2 hb.size⟩)⟩
theorem GnR.blk (h:GnR w2 zg ns N wx) {b:Nat} (hb:N.ownBlock=QJ b):zg<b/\b<wx.heap.size:=by obtain⟨_,_,_,a,_⟩:=h.own;exact a b hb
theorem GnR.more {w5:QV} {g n a:Nat} {j:i_} {G:Nat->Prop} (h:GnR w2 zg ns N wx) (c:∀b,G b->zg<b/\b<wx.heap.size) (f:wx.grownBy w5 N.ownBlock) (l:N.ownBlock=QJ g\/wx.heap.size<=g) (q:g<w5.heap.size)
    (m:x_ 72 3 NoR w5 (λb=>(zg<b/\b<wx.heap.size)\/G b\/b=g) (ns++[j]) (QQ (QJ ⟨g,0,QK⟩) n a))
    (o:w'.heap[zg]?=QJ (XX #[QQ (QJ ⟨g,0,QK⟩) n a,QQ QK 0 0] 54 (0,0))) (ht:Turn (λb=>b=zg) w5 w'):GnR w2 zg (ns++[j]) (QQ (QJ ⟨g,0,QK⟩) n a) w':=by
 have hb:=b_ h.box;have u:=f.size;have s:=ht.size;refine⟨(h.t.trans ((Turn.of_grown f).mono λi _ e=>Nat.le_of_lt (h.blk e.symm).1)).trans (ht.mono λi _ e=>Nat.le_of_eq (show zg=i from Eq.symm e)),o,?_⟩
 have r:zg<g:=by
  rcases l with e | e
  ·exact (h.blk e).1
  ·omega
 refine (m.turn NoR.good ht (λb k=>?_) (λb k e=>?_)).mono NoR.good λb k=>?_
 ·rcases k with k | k | k
  ·omega
  ·have:=c b k;omega
  ·omega
 ·have e:b=zg:=e;rcases k with k | k | k
  ·omega
  ·have:=c b k;omega
  ·omega
 ·rcases k with k | k | k
  ·omega
  ·have:=c b k;omega
  ·omega
theorem GnR.next (h:GnR w2 zg ns N wx):GeM wx zg wx.heap.size ns N [] (QQ QK 0 0) wx:=⟨Turn.refl _ _,h.box,h.own,x_.nil ..,b_ h.box,XK _⟩
end
theorem rj_ (T:List e_) (t:e_):ab_ (T++[t])=dj_ y_ (dj_ y_ (ab_ T) t.s) t.o:=by unfold ab_;rw[qd_,show dh_ T++[t.s,t.o]=(dh_ T++[t.s])++[t.o] from by simp,hn_,hn_]
theorem ql_ (l:List g_) (v:g_):(dj_ y_ l v).length<=l.length+1:=by
 unfold dj_;simp only;split
 ·omega
 ·rw[ZZ,List.length_cons,UJ,List.length_drop];omega
theorem t3_ (T:List e_) (n:Nat):(ab_ (T.take n)).length<=2*n:=by
 induction n with
 | zero=>exact XK _
 | succ n b=>
  by_cases a:n<T.length
  ·rw[List.take_succ_eq_append_getElem a,rj_];have h1:=ql_ (dj_ y_ (ab_ (T.take n)) T[n].s) T[n].o;have h2:=ql_ (ab_ (T.take n)) T[n].s;omega
  ·rw[YJ (by omega)];rw[YJ (by omega)]at b;omega
theorem Lz_ {w:QV} {F:Nat->Prop} {T:List e_} {A:Option Addr} {n:Nat} (j:∀t,t∈T->v0_ t) (h:SRd 18 TrR w F T A n):SRd 18 (ofP CTx) w F T A n:=
 ⟨h.1,λk=>by
  obtain⟨ad,e,f,g⟩:=h.2 k;refine⟨ad,e,f,λi x a=>?_⟩;obtain⟨c,h1,h2,b⟩:=g i x a;exact⟨c,h1,h2,TrR.cellT b (j x (YZ a))⟩⟩
theorem Ax_ (L:List e_) (dd:∀t,t∈L->OkT t) (F:Nat->Prop) (A:Option Addr) (n0 cp:Nat) (w:QV) (hF:∀g,F g->g<w.heap.size) (h:SRd 18 TrR w F L A n0) (hn:n0<=1000000000)
    (dh:L.length<=65536->L.all ch_=true->∀t,t∈an_ (s_ (aa_ 0)) L->cj_ t/\∀n,cg_ (t.get n)) :
    Calls QW 26 #[QQ A n0 cp] w (he_ L w):=by
 have ac:=q_ dh;have cr:=q_ (λ(W:QV) (hb:XW w.heap.size w W)=>ya_ L dd (cp:=cp) (h.under TrR.good hb hF) (λb h=>XZ (hF b h) hb.size) hn);unfold ig_ at cr;unfold he_;clear h dd hF dh;obtain⟨z,HZ⟩:=a_ w.heap.size;obtain⟨w1,b4⟩:=a_ (w.alloc (XX #[QQ QK 0 0,QQ QK 0 0] 54));have ai:=q_ (show XW w.heap.size w w1 from by rw[<-b4.o];exact (XV _ _).alloc (XK _) _);have b1:=q_ (show w1.heap[z]?=QJ (XX #[QQ QK 0 0,QQ QK 0 0] 54 (0,0)) from by rw[<-b4.o,<-HZ.o];exact XU w _);go_enter func26,ntmps26
 go_upto_region 1 with fail;rw[b4.o,HZ.o];clear b4;go_wp2_with fail;refine (cr.o w1 ai.o).mono ?_;rintro e w2 (⟨dc,rfl,hb⟩ | ⟨a0,az,v2,rfl,b0,hb⟩)
 ·have bu:=q_ dc;have a8:=q_ (ai.o.trans (hb.mono ai.o.size));have aj:=q_ ((hb.block z (b_ b1.o)).trans b1.o);clear dc hb;go_wp2_with ((with_reducible refine w_ 2 ?_);refine o_ rfl 54 _ _ rfl z (#[QQ QK 0 0,QQ QK 0 0]) (#[QQ QK 0 0,QQ QK 0 0]) 54 rfl rfl aj.o rfl (P_ _ _) (cz_ _ _ _ _ _ _) ?_;intro w3 eo em)
  refine ZV (v:=ZJ #[.agg #[QQ QK 0 0,QQ QK 0 0],QY QU 20]) (cn_ results26 (g:=z) rfl eo _ underlying54 rfl (P_ _ _) rfl) rfl (.inl ⟨bu.o,rfl,h_ a8.o em (λb e=>by have e:b=z:=e;have h2:w.heap.size=z:=HZ.o;omega)⟩)
 ·have c6:=q_ (And.intro a0 az);have a8:=q_ (ai.o.trans (hb.mono ai.o.size));have aj:=q_ ((hb.block z (b_ b1.o)).trans b1.o);obtain⟨T,HT⟩:=a_ (an_ (s_ (aa_ 0)) L);have ac:=q_ (ac.o a0 az);rw[HT.o]at b0 ac;have y:=q_ (λt (ht:t∈T)=>(ac.o t ht).1);have dx:=q_ (λt (ht:t∈T)=>(ac.o t ht).2);have e4:=q_ (λt (ht:t∈T)=>lu_ (y.o t ht) (dx.o t ht));obtain⟨n,HN⟩:=a_ T.length;have aa:=q_ (show n<=65536 from by rw[<-HN.o,<-HT.o];exact ZX (fi_ ..) a0);obtain⟨A5,c5,e5,_,cg⟩:=b0.rd TrR.good;rw[HN.o]at e5 cg;subst e5;have de:=Lz_ e4.o cg;have cw:=q_ (λ(W:QV) (hk:∀b,b<w2.heap.size->W.heap[b]?=w2.heap[b]?)=>de.keep (w':=W) (ofP.good CTx) (λp hp=>World.cell?_of_block (hk p.block hp.2)));have dv:=q_ (show LdP 39 6 CVm w2 (ab_ (T.take 0)) (QQ QK 0 0) w2 from LdP.start w2);clear b0 hb cg de a0 az ac;go_wp2_with fail;go_loopw [6,7] (λs6 s7 wx=>∃(i:Nat) (S:XJ),i<=n/\s7 = QY QU (i:Nat)/\S=s6/\Q_ (LdP 39 6 CVm w2 (ab_ (T.take i)) S wx)) (λ_ s7 _=>n-(intOf s7).toNat)
  case atStart=>exact⟨0,_,by omega,rfl,rfl,dv⟩
  case round=>
   obtain⟨i,S,hi,rfl,rfl,hM⟩:=hrel;by_cases q:i<n
   ·have a1:(0:Int)<=i:=by omega
    have a2:(i:Int)<n:=by omega
    have a0:=aa.o;have dj:IntKind.i64.wrap ((i:Int)+1)=(i:Int)+1:=YU _ (by omega);clear a0;have br:=q_ q;obtain⟨t,ht⟩:∃t,T[i]?=QJ t:=⟨_,XQ (by rw[HN.o];exact q)⟩;have c0:=q_ ht;obtain⟨ad,ct,eA,af,ag,hq,O,ss,a7,a6⟩:=(cw.o w2 (λ_ _=>rfl)).at_ ht;subst eA;obtain⟨R,Y⟩:=L_ (t.get 0) (ss 0);obtain⟨U,Z⟩:=L_ (t.get 2) (ss 2);obtain⟨A0,q0,e0⟩:=a7 0 (by omega);obtain⟨A2,q2,e2⟩:=a7 2 (by omega);have ba:=q_ (show gu_ R t.s from ⟨O 0,A0,q0,by rw[<-Y.o,e0];rfl⟩);have bb:=q_ (show gu_ U t.o from ⟨O 2,A2,q2,by rw[<-Z.o,e2];rfl⟩)
    have cu:=q_ (λ(W:QV) (hb:XW w2.heap.size w2 W) (e:Nat) (he:e<3) (u:Array XJ) (hu:c_ (t.get e) (ss e)=u) (j:Nat) (J:j<u.size)=>(show W.cell? (((ad.add (i*18)).add (e*6)).add j)=u[j]? from by
     have au:j<6:=by rw[<-hu]at J;exact J
     rw[add_of_add,add_of_add,hb.cell (p:=ad.add (i*18+(e*6+j))) (by rw[A_];exact af.2),hq (e*6+j) (by omega),a6,u_ t ss e he j au,hu]))
    have bw:=q_ (λ(W:QV) (hb:XW w2.heap.size w2 W) (j:Nat) (J:j<R.size)=>(show W.cell? ((ad.add (i*18)).add j)=R[j]? from by have h1:=cu.o W hb 0 (by omega) R Y.o j J;rwa [Nat.zero_mul,show (ad.add (i*18)).add 0=ad.add (i*18) from by rw[add_of_add,Nat.add_zero]]at h1));have bx:=q_ (λ(W:QV) (hb:XW w2.heap.size w2 W) (j:Nat) (J:j<U.size)=>(show W.cell? (((ad.add (i*18)).add 12).add j)=U[j]? from cu.o W hb 2 (by omega) U Z.o j J));have c8:=q_ (show (Tryz.prog.info? 39).map (·.size)=QJ R.size from ai_.trans (congrArg QJ Y.size.symm));have c9:=q_ (show (Tryz.prog.info? 39).map (·.size)=QJ U.size from ai_.trans (congrArg QJ Z.size.symm));have I:=q_ (show (ab_ (T.take i)).length<=150000 from by have:=t3_ T i;have:=br.o;have:=aa.o;omega);have cz:=q_ (show ab_ (T.take (i+1))=dj_ y_ (dj_ y_ (ab_ (T.take i)) t.s) t.o from by rw[f_ c0.o,rj_]);obtain⟨l,Hl⟩:=a_ (ab_ (T.take i));rw[Hl.o]at I cz;have bq:=q_ (show LdP 39 6 CVm w2 l S wr from by rw[<-Hl.o];exact hM.o);clear ht af ag hq O a7 a6 e0 e2 q hi hM;go_upto_region 8 with fail;refine UZ (S:=λW'=>XW w2.heap.size w2 W') (by kernel_rfl) bq.o.drew.hb λc=>?_;refine H_.o ?_;refine O_ 0 26 (S) c λc=>?_;refine O_ 1 27 (QQ (QJ ad) n c5) c λc=>?_;refine O_ 2 28 (QY QU (i:Nat)) c λc=>?_;refine O_ 3 29 (YK (QJ (ad.add (i*18)))) c λc=>?_;refine O_ 4 30 (YK (QJ (ad.add (i*18)))) c λc=>?_;refine tlW 5 31 (.agg R) c (λw f=>?_) λc=>?_
    ·have p:=v_ w (ad.add (i*18)) 39 R _ (bw.o w f) YV rfl c8.o;exact k_ (by simp only[Instr.loadAt,Instr.sureAddr,Sem.run_bind];exact p)
    refine O_ 7 33 (QQ (QJ ad) n c5) c λc=>?_;refine O_ 8 34 (QY QU (i:Nat)) c λc=>?_;refine O_ 9 35 (YK (QJ (ad.add (i*18)))) c λc=>?_;refine O_ 10 36 (YK (QJ ((ad.add (i*18)).add 12))) c λc=>?_;refine tlW 11 37 (.agg U) c (λw f=>?_) λc=>?_
    ·have p:=v_ w ((ad.add (i*18)).add 12) 39 U _ (bx.o w f) YV rfl c9.o;exact k_ (by simp only[Instr.loadAt,Instr.sureAddr,Sem.run_bind];exact p)
    refine tlC 6 λK k=>?_;go_simp;refine (yj_ bq.o.drew (by have:=I.o;omega) t.s R ba.o).mono ?_;unfold uc_;rintro e x1 ⟨S1,rfl,av⟩;have bs:=q_ av;clear av;dsimp only;refine tlB k bs.o.hb λc=>?_;clear k K;refine tlC 12 λK k=>?_;go_simp;refine (yj_ bs.o (by have h1:=ql_ l t.s;have:=I.o;omega) t.o U bb.o).mono ?_;unfold uc_;rintro e x2 ⟨S2,rfl,av⟩;have bt:=q_ av;clear av;dsimp only;refine tlB k bt.o.hb λc=>?_;clear k K;refine O_ 13 6 (S2) c λc=>?_;refine⟨VX (by kernel_rfl) ?_ _⟩;clear c;go_wp2_with fail;go_roundw
    case rel=>exact⟨i+1,_,by have:=br.o;omega,by go_num,rfl,q_ (by rw[cz.o];exact bt.o)⟩
    case measure=>have:=br.o;simp[intOf];omega
   ·have a2:¬(i:Int)<n:=by omega
    have ei:i=n:=by omega
    have c3:=q_ (show T.take i=T from YJ (by rw[HN.o];omega));rw[c3.o]at hM;clear q hi;have ab:=q_ hM.o
    have b3:=q_ (show ∀t,t∈T->t.s∈ab_ T/\t.o∈ab_ T from λt ht=>by
     have hv:=ct_ dp_ (l:=dh_ T) (λa ha b hb h0=>by
      obtain⟨ta,aw,ea⟩:=fv_ ha;obtain⟨tb,ay,eb⟩:=fv_ hb;refine d9_ ?_ ?_ h0
      ·rcases ea with e | e
       ·rw[e];exact (y.o ta aw).get 0
       ·rw[e];exact (y.o ta aw).get 2
      ·rcases eb with e | e
       ·rw[e];exact (y.o tb ay).get 0
       ·rw[e];exact (y.o tb ay).get 2)
     exact⟨(hv.2 _).2 (List.mem_flatMap.2 ⟨t,ht,by simp⟩),(hv.2 _).2 (List.mem_flatMap.2 ⟨t,ht,by simp⟩)⟩)
    have c4:=q_ (show ∀v,v∈ab_ T->af_ v from λv hv=>by
     have hl:=ct_ dp_ (l:=dh_ T) (λa ha b hb h0=>by
      obtain⟨ta,aw,ea⟩:=fv_ ha;obtain⟨tb,ay,eb⟩:=fv_ hb;refine d9_ ?_ ?_ h0
      ·rcases ea with e | e
       ·rw[e];exact (y.o ta aw).get 0
       ·rw[e];exact (y.o ta aw).get 2
      ·rcases eb with e | e
       ·rw[e];exact (y.o tb ay).get 0
       ·rw[e];exact (y.o tb ay).get 2)
     obtain⟨t,ht,e⟩:=fv_ ((hl.2 v).1 hv);rcases e with e | e
     ·rw[e];exact (y.o t ht).get 0
     ·rw[e];exact (y.o t ht).get 2)
    have I:=q_ (show (ab_ T).length<=150000 from by have h:=t3_ T i;rw[c3.o]at h;have:=aa.o;omega);have bl:=q_ (Bw_ T);obtain⟨D,HD⟩:=a_ (ab_ T);rw[HD.o]at ab b3 c4 I bl;obtain⟨nd,X⟩:=a_ D.length;rw[X.o]at I;obtain⟨Av,cv,eS,ce,el⟩:=ab.o.own.form;rw[X.o]at eS ce;rw[eS]at ab;subst eS;have ev:=q_ ce;have a3:=q_ (show XW w2.heap.size w2 wr from ab.o.hb);have bz:=q_ (show SRd 6 (ofP CVm) wr (λb=>b<wr.heap.size) D Av nd from ab.o.own.rd ag_ (λb hb=>ab.o.own.lt hb) X.o);obtain⟨zg,M⟩:=a_ wr.heap.size;obtain⟨w6,b5⟩:=a_ (wr.alloc (XX #[QQ QK 0 0,QQ QK 0 0] 54));have b9:=q_ (show XW wr.heap.size wr w6 from by rw[<-b5.o];exact (XV _ _).alloc (XK _) _);have co:=q_ (show w6.heap[zg]?=QJ (XX #[QQ QK 0 0,QQ QK 0 0] 54 (0,0)) from by rw[<-b5.o,<-M.o];exact XU wr _);have cq:=q_ (show GnR w6 zg (bv_ (D.take 0)) (QQ QK 0 0) w6 from ⟨Turn.refl _ _,co.o,x_.nil ..⟩);clear hM ce el c3 ei;go_upto_region 10 with fail;rw[b5.o,M.o];clear b5 co;go_wp2_with fail;clear a2;go_loopw [9] (λs9 wx=>∃j:Nat,j<=nd/\s9 = QY QU (j:Nat)/\Q_ (∃N,GnR w6 zg (bv_ (D.take j)) N wx)) (λs9 _=>nd-(intOf s9).toNat)
    case atStart=>exact⟨0,by omega,rfl,q_ ⟨_,cq.o⟩⟩
    case round=>
     rename QV=>wq
     obtain⟨j,J,rfl,hR⟩:=hrel;obtain⟨N,d9⟩:=hR.o;have V:=q_ d9;clear d9 hR cq;have bn:=q_ (λb (hb:b<wr.heap.size)=>(V.o.t.block b (XZ hb b9.o.size) (λh=>by have:=M.o;omega)).trans (b9.o.block b hb));by_cases q:j<nd
     ·have a1:(0:Int)<=j:=by omega
      have a2:(j:Int)<nd:=by omega
      have en:=I.o;have dj:IntKind.i64.wrap ((j:Int)+1)=(j:Int)+1:=YU _ (by omega);clear en;have a9:=q_ q;obtain⟨v,hv⟩:∃v,D[j]?=QJ v:=⟨_,XQ (by rw[X.o];exact q)⟩;have ec:=q_ hv;have e8:=q_ (c4.o v (YZ hv));obtain⟨ad,cc,eA,db,ag,d7,⟨_,Aq,qv,ca⟩⟩:=bz.o.at_ hv;subst eA;obtain⟨sv,cx⟩:=a_ (Value.slice Aq 0 qv);rw[cx.o]at ca;have cl:=q_ (show Eq6 cc v sv from ⟨ca.symm⟩);have dq:=q_ (λ(W:QV) (hk:∀b,b<wr.heap.size->W.heap[b]?=wr.heap[b]?) i (hi:i<cc.size)=>(show W.cell? ((ad.add (j*6)).add i)=cc[i]? from by rw[add_of_add,World.cell?_of_block (hk _ (by rw[A_];exact db))];exact d7 i (by rw[ag]at hi;exact hi)));have I6:=q_ (show (Tryz.prog.info? 39).map (·.size)=QJ cc.size from ai_.trans (congrArg QJ cl.o.size.symm));have cf:=λid=>Eo_ id v (Ci_ e8.o) Aq qv;rw[cx.o,cl.o.o]at cf;have e6:=q_ cf;have ck:=q_ (show bv_ (D.take (j+1))=bv_ (D.take j)++[U_ (j:Nat) v] from by rw[f_ ec.o,n7_,UJ,X.o,Nat.min_eq_left (Nat.le_of_lt a9.o)]);have cs:=q_ (show (bv_ (D.take j)).length=j from by rw[qv_,UJ,X.o];have:=a9.o;omega);obtain⟨ns,b7⟩:=a_ (bv_ (D.take j));rw[b7.o]at V ck cs;clear hv db d7 ag ca cf q J;go_upto_region 13 with fail;obtain⟨we,a5⟩:=a_ wq.drew;have a4:=q_ (show GnR w6 zg ns N we from by rw[<-a5.o];exact V.o.on (XV _ _).drew);have e1:=q_ (show ∀b,b<wr.heap.size->we.heap[b]?=wr.heap[b]? from by rw[<-a5.o];exact bn.o);have ae:=q_ (show wr.heap.size<=zg/\wr.heap.size<=we.heap.size from ⟨Nat.le_of_eq M.o,by have:=b_ a4.o.box;have h2:wr.heap.size=zg:=M.o;omega⟩);refine me_ 11 (λW:QV=>(∀b,b<wr.heap.size->W.heap[b]?=wr.heap[b]?)/\W.heap[zg]?=QJ (Obj.cells #[N,QQ QK 0 0] 54 (0,0))) ⟨bn.o,V.o.box⟩ λc=>?_;rw[a5.o]at c ⊢;refine k_wantV 0 45 (YK (QJ ⟨zg,0,QK⟩)) c λc=>?_;refine ca_ 1 46 (N) c (λw f=>?_) λc=>?_
      ·have p:=QX f.2 0;unfold z_;go_simp
      refine k_wantV 2 47 (QY QU (j:Nat)) c λc=>?_;refine k_wantV 3 48 (QQ (QJ ad) nd cv) c λc=>?_;refine k_wantV 4 49 (QY QU (j:Nat)) c λc=>?_;refine ca_ 5 50 (YK (QJ (ad.add (j*6)))) c (λw f=>?_) λc=>?_
      ·exact k_ (lr_ ad nd cv j a9.o w)
      refine ca_ 6 51 (.agg cc) c (λw f=>?_) λc=>?_
      ·have p:=v_ w (ad.add (j*6)) 39 cc _ (dq.o w f.1) YV rfl I6.o;exact k_ (by simp only[Instr.loadAt,Instr.sureAddr,Sem.run_bind];exact p)
      refine d7_ 7 λK k=>?_;go_simp;refine (e6.o _ _).mono ?_;unfold i7_;rintro e wf ⟨L,P,rfl,hl,hp,hb⟩;obtain⟨⟨AL,cL,eL,_,_⟩,⟨AP,cP,eP,_,_⟩⟩:=And.intro (id hl) (id hp);obtain⟨lL,ed⟩:=a_ (U_ (j:Nat) v).labels.length;obtain⟨lP,ee⟩:=a_ (U_ (j:Nat) v).props.length;rw[ed.o]at eL;rw[ee.o]at eP;subst eL;subst eP;have bu:=q_ (show NoR wf (λb=>we.heap.size<=b/\b<wf.heap.size) (U_ (j:Nat) v) (#[QY QU (j:Nat),QQ AL lL cL,QQ AP lP cP]) from ⟨_,_,by rw[dd_],hl,hp⟩);have r:=q_ (a4.o.on hb);have ak:=q_ (show ∀b,b<wr.heap.size->wf.heap[b]?=wr.heap[b]? from λb h=>(hb.block b (XZ h ae.o.2)).trans (c.1 b h));have dr:=q_ (s4_ (j:Nat) AL lL cL AP lP cP);have dn:=q_ (show ∀b,b<wr.heap.size->(wf.alloc (XX (#[QY QU (j:Nat),QQ AL lL cL,QQ AP lP cP]) 72)).heap[b]?=wr.heap[b]? from λb h=>(heap_alloc_old wf (Obj.cells (#[QY QU (j:Nat),QQ AL lL cL,QQ AP lP cP]) 72) (by have:=hb.size;have:=ae.o.2;omega)).trans (ak.o b h));have cm:=q_ (show zg<we.heap.size/\∀b,N.ownBlock=QJ b->b<we.heap.size from ⟨b_ a4.o.box,λb h=>(a4.o.blk h).2⟩);clear hl hp hb;dsimp only;refine d6_ k ⟨ak.o,r.o.box⟩ λc=>?_;refine d7_ 8 λK k=>?_;refine dk_ 51 1 _ rfl #[(0,.agg (#[QY QU (j:Nat),QQ AL lL cL,QQ AP lP cP]))] (by kernel_rfl) _ _ (wc_ _ _ _ _) ?_;dsimp only;refine d6_ k ⟨dn.o,(heap_alloc_old wf _ (b_ r.o.box)).trans r.o.box⟩ λc=>?_;refine d7_ 9 λK k=>?_;refine mn_ NoR.good _ _ 51 rfl (.agg #[QY QU 0,QQ QK 0 0,QQ QK 0 0]) underlying51 sv_ rfl (by decide) (by decide) rfl r.o.own cs.o rfl bu.o rfl dr.o (by have:=I.o;have:=a9.o;omega) (λb h=>h.2) (λb h=>h.2) (λb h e=>by have:=cm.o.2 b e;have:=h.1;omega) λg aq wg ho hg hl ar=>?_;have B:=q_ ((hg.block zg (b_ r.o.box) (λe=>by have:=(r.o.blk e.symm).1;omega)).trans r.o.box);have am:=q_ (show ∀b,b<wr.heap.size->wg.heap[b]?=wr.heap[b]? from λb h=>(hg.block b (by have:=b_ r.o.box;have:=ae.o.1;omega) (λe=>by have:=(r.o.blk e.symm).1;have:=ae.o.1;omega)).trans (ak.o b h));have bj:=q_ ho;have bg:=q_ hg;have bi:=q_ hl;have bk:=q_ ar;clear ho hg hl ar;dsimp only;refine d6_ k ⟨am.o,B.o⟩ λc=>?_;refine k_wantV 10 55 (YK (QJ ⟨zg,0,QK⟩)) c λc=>?_;refine u8_ 11 λK k=>?_;refine dq_ 51 _ _ rfl zg 0 (#[N,QQ QK 0 0]) 54 (QQ (QJ ⟨g,0,QK⟩) (j+1) aq) rfl rfl (mg_ B.o (by show 0<2;omega) _ _ _) B.o λwh hw ht=>?_;have bh:=q_ (show GnR w6 zg (ns++[U_ (j:Nat) v]) (QQ (QJ ⟨g,0,QK⟩) (j+1) aq) wh from r.o.more (G:=λb=>we.heap.size<=b/\b<wf.heap.size) (λb h=>⟨by have:=cm.o.1;omega,h.2⟩) bg.o bi.o bk.o (bj.o.mono NoR.good λb h=>h) hw ht);have e3:=q_ (show ∀b,b<wr.heap.size->wh.heap[b]?=wr.heap[b]? from λb h=>(ht.block b (by have:=b_ B.o;have:=ae.o.1;omega) (λe=>by have e:b=zg:=e;have:=ae.o.1;omega)).trans (am.o b h));clear hw ht;refine Bz_ k ?_;go_wp2_with fail;go_roundw
      case rel=>exact⟨j+1,by have:=a9.o;omega,by go_num,q_ ⟨_,by rw[ck.o];exact bh.o⟩⟩
      case measure=>have:=a9.o;simp[intOf];omega
     ·have a2:¬(j:Int)<nd:=by omega
      have ej:j=nd:=by omega
      have e9:=q_ (show D.take j=D from YJ (by rw[X.o];omega));rw[e9.o]at V;clear q J ej;obtain⟨ze,d0⟩:=a_ wq.heap.size;obtain⟨ns,b7⟩:=a_ (bv_ D);rw[b7.o]at V;have bf:=q_ (show GeM wq zg ze ns N (c2_ D (T.take 0)) (QQ QK 0 0) wq from by rw[<-d0.o];exact V.o.next);go_wp2_with fail;clear a2;go_loopw [10] (λch wx=>∃i:Nat,i<=n/\ch = QY QU (i:Nat)/\Q_ (∃E,GeM wq zg ze ns N (c2_ D (T.take i)) E wx)) (λch _=>n-(intOf ch).toNat)
      case atStart=>exact⟨0,by omega,rfl,q_ ⟨_,bf.o⟩⟩
      case round=>
       rename QV=>wx
       obtain⟨i,hi,rfl,hR⟩:=hrel;obtain⟨E,d8⟩:=hR.o;have m:=q_ d8;clear d8 hR bf;have bo:=q_ (show ∀b,b<wr.heap.size->wx.heap[b]?=wr.heap[b]? from λb hb=>(m.o.t.block b (by have:=d0.o;have h2:wr.heap.size=zg:=M.o;have:=m.o.lt;omega) (λh=>by have h2:wr.heap.size=zg:=M.o;have:=m.o.lt;rcases h with h | h<;>omega)).trans (bn.o b hb))
       by_cases q:i<n
       ·have a1:(0:Int)<=i:=by omega
        have a2:(i:Int)<n:=by omega
        have a0:=aa.o;have dj:IntKind.i64.wrap ((i:Int)+1)=(i:Int)+1:=YU _ (by omega);clear a0;have ao:=q_ q;obtain⟨t,ht⟩:∃t,T[i]?=QJ t:=⟨_,XQ (by rw[HN.o];exact q)⟩;have c0:=q_ ht;have cy:=q_ (YZ ht);obtain⟨ad,ct,eA,af,ag,hq,O,ss,a7,a6⟩:=(cw.o w2 (λ_ _=>rfl)).at_ ht;subst eA;obtain⟨R,Y⟩:=L_ (t.get 0) (ss 0);obtain⟨U,Z⟩:=L_ (t.get 2) (ss 2);obtain⟨A0,q0,e0⟩:=a7 0 (by omega);obtain⟨A2,q2,e2⟩:=a7 2 (by omega);have ba:=q_ (show gu_ R t.s from ⟨O 0,A0,q0,by rw[<-Y.o,e0];rfl⟩);have bb:=q_ (show gu_ U t.o from ⟨O 2,A2,q2,by rw[<-Z.o,e2];rfl⟩);have bc:=q_ (λ(W:QV) (hb:∀b,b<wr.heap.size->W.heap[b]?=wr.heap[b]?) (j:Nat) (J:j<18)=>(show W.cell? ((ad.add (i*18)).add j)=ct[j]? from by rw[add_of_add,World.cell?_of_block (hb _ (by rw[A_];exact XZ af.2 a3.o.size)),World.cell?_of_block (a3.o.block _ (by rw[A_];exact af.2)),hq j J]))
        have bw:=q_ (λ(W:QV) (hb:∀b,b<wr.heap.size->W.heap[b]?=wr.heap[b]?) (j:Nat) (J:j<R.size)=>(show W.cell? ((ad.add (i*18)).add j)=R[j]? from by
         have au:j<6:=by rw[<-Y.o]at J;exact J
         have h1:=u_ t ss 0 (by omega) j au;rw[Nat.zero_mul,VQ]at h1;rw[bc.o W hb j (by omega),a6,h1,Y.o]))
        have bx:=q_ (λ(W:QV) (hb:∀b,b<wr.heap.size->W.heap[b]?=wr.heap[b]?) (j:Nat) (J:j<U.size)=>(show W.cell? (((ad.add (i*18)).add 12).add j)=U[j]? from by
         have au:j<6:=by rw[<-Z.o]at J;exact J
         have h1:=bc.o W hb (2*6+j) (by omega);rw[a6,u_ t ss 2 (by omega) j au,Z.o]at h1;rw[<-h1,add_of_add,add_of_add]))
        obtain⟨tx,d4⟩:=a_ t.p.text;have e7:=q_ (λ(W:QV) (hb:∀b,b<wr.heap.size->W.heap[b]?=wr.heap[b]?)=>(show W.cell? (((ad.add (i*18)).add 6).add 3)=QJ (QZ tx) from by have h1:=bc.o W hb 9 (by omega);rw[a6,show (N_ t ss)[9]?=QJ (QZ t.p.text) from rfl,d4.o]at h1;rw[<-h1,add_of_add,add_of_add]));have c8:=q_ (show (Tryz.prog.info? 39).map (·.size)=QJ R.size from ai_.trans (congrArg QJ Y.size.symm));have c9:=q_ (show (Tryz.prog.info? 39).map (·.size)=QJ U.size from ai_.trans (congrArg QJ Z.size.symm));have dl:=q_ (b3.o t cy.o).1;have dm:=q_ (b3.o t cy.o).2;obtain⟨pa,d2⟩:=a_ (bb_ D t.s);obtain⟨pb,d3⟩:=a_ (bb_ D t.o);have cn:=q_ (show c2_ D (T.take (i+1))=c2_ D (T.take i)++[⟨(i:Nat),pa,pb,tx,[]⟩] from by rw[f_ c0.o,n2_,UJ,HN.o,Nat.min_eq_left (Nat.le_of_lt ao.o),d2.o,d3.o,d4.o]);have bd:=q_ (show (c2_ D (T.take i)).length=i from by rw[qb_,UJ];have:=ao.o;have:=HN.o;omega);obtain⟨es,dw⟩:=a_ (c2_ D (T.take i));rw[dw.o]at m cn bd;have dk:=q_ (λW:QV=>(show EdR W (λb=>False) (⟨(i:Nat),pa,pb,tx,[]⟩:l_) (#[QY QU (i:Nat),QY QU pa,QY QU pb,QZ tx,QQ QK 0 0]) from ⟨_,rfl,SlR.nil ..⟩));clear ht af ag hq O a7 a6 e0 e2 q hi;go_upto_region 17 with fail;obtain⟨we,a5⟩:=a_ wx.drew;have a4:=q_ (show GeM wq zg ze ns N es E we from by rw[<-a5.o];exact m.o.on (XV _ _).drew);have e1:=q_ (show ∀b,b<wr.heap.size->we.heap[b]?=wr.heap[b]? from by rw[<-a5.o];exact bo.o);have ah:=q_ (show wr.heap.size<=zg/\wr.heap.size<=we.heap.size from ⟨Nat.le_of_eq M.o,by have:=b_ a4.o.box;have h2:wr.heap.size=zg:=M.o;omega⟩);refine me_ 27 (λW:QV=>(∀b,b<wr.heap.size->W.heap[b]?=wr.heap[b]?)/\W.heap[zg]?=QJ (Obj.cells #[N,E] 54 (0,0))) ⟨bo.o,m.o.box⟩ λc=>?_;rw[a5.o]at c ⊢;refine k_wantV 0 62 (YK (QJ ⟨zg,1,QK⟩)) c λc=>?_;refine ca_ 1 63 (E) c (λw f=>?_) λc=>?_
        ·have p:=QX f.2 1;unfold z_;go_simp
        refine k_wantV 2 64 (QY QU (i:Nat)) c λc=>?_;refine k_wantV 3 65 (QQ Av nd cv) c λc=>?_;refine k_wantV 4 66 (QQ (QJ ad) n c5) c λc=>?_;refine k_wantV 5 67 (QY QU (i:Nat)) c λc=>?_;refine k_wantV 6 68 (YK (QJ (ad.add (i*18)))) c λc=>?_;refine k_wantV 7 69 (YK (QJ (ad.add (i*18)))) c λc=>?_;refine ca_ 8 70 (.agg R) c (λw f=>?_) λc=>?_
        ·have p:=v_ w (ad.add (i*18)) 39 R _ (bw.o w f.1) YV rfl c8.o;exact k_ (by simp only[Instr.loadAt,Instr.sureAddr,Sem.run_bind];exact p)
        refine k_wantV 10 72 (QQ Av nd cv) c λc=>?_;refine k_wantV 11 73 (QQ (QJ ad) n c5) c λc=>?_;refine k_wantV 12 74 (QY QU (i:Nat)) c λc=>?_;refine k_wantV 13 75 (YK (QJ (ad.add (i*18)))) c λc=>?_;refine k_wantV 14 76 (YK (QJ ((ad.add (i*18)).add 12))) c λc=>?_;refine ca_ 15 77 (.agg U) c (λw f=>?_) λc=>?_
        ·have p:=v_ w ((ad.add (i*18)).add 12) 39 U _ (bx.o w f.1) YV rfl c9.o;exact k_ (by simp only[Instr.loadAt,Instr.sureAddr,Sem.run_bind];exact p)
        refine k_wantV 17 79 (QQ (QJ ad) n c5) c λc=>?_;refine k_wantV 18 80 (QY QU (i:Nat)) c λc=>?_;refine k_wantV 19 81 (YK (QJ (ad.add (i*18)))) c λc=>?_;refine k_wantV 20 82 (YK (QJ ((ad.add (i*18)).add 6))) c λc=>?_;refine k_wantV 21 83 (YK (QJ (((ad.add (i*18)).add 6).add 3))) c λc=>?_;refine ca_ 22 84 (QZ tx) c (λw f=>?_) λc=>?_
        ·have p:w.cell? ⟨(ad.add (i*18)).block,(ad.add (i*18)).off+6+3,QK⟩=QJ (QZ tx):=e7.o w f.1;unfold z_;go_simp
        refine d7_ 9 λK k=>?_;go_simp;refine (th_ (F:=λb=>b<wr.heap.size) (bz.o.keep (w':=we) (ofP.good CVm) (λp hp=>World.cell?_of_block (c.1 p.block hp))) (λb hb=>XZ hb ah.o.2) (by have:=I.o;omega) t.s _ ba.o dl.o).mono ?_;unfold o0_;rw[d2.o];rintro e wf ⟨rfl,hb⟩;have r:=q_ (a4.o.on hb);have b6:=q_ (show wr.heap.size<=zg/\wr.heap.size<=wf.heap.size from ⟨ah.o.1,ZX ah.o.2 hb.size⟩);have ak:=q_ (show ∀b,b<wr.heap.size->wf.heap[b]?=wr.heap[b]? from λb h=>(hb.block b (XZ h ah.o.2)).trans (c.1 b h));clear hb;dsimp only;refine d6_ k ⟨ak.o,r.o.box⟩ λc=>?_;refine d7_ 16 λK k=>?_;go_simp;refine (th_ (F:=λb=>b<wr.heap.size) (bz.o.keep (w':=wf) (ofP.good CVm) (λp hp=>World.cell?_of_block (c.1 p.block hp))) (λb hb=>XZ hb b6.o.2) (by have:=I.o;omega) t.o _ bb.o dm.o).mono ?_;unfold o0_;rw[d3.o];rintro e wk ⟨rfl,hb⟩;have C:=q_ (r.o.on hb);have ap:=q_ (show wr.heap.size<=zg/\wr.heap.size<=wk.heap.size from ⟨b6.o.1,ZX b6.o.2 hb.size⟩);have bm:=q_ (show ∀b,b<wr.heap.size->wk.heap[b]?=wr.heap[b]? from λb h=>(hb.block b (XZ h b6.o.2)).trans (c.1 b h));clear hb;dsimp only;refine d6_ k ⟨bm.o,C.o.box⟩ λc=>?_;have dp:=q_ (show ∀b,b<wr.heap.size->(wk.alloc (XX (#[QY QU (i:Nat),QY QU pa,QY QU pb,QZ tx,QQ QK 0 0]) 74)).heap[b]?=wr.heap[b]? from λb h=>(heap_alloc_old wk (Obj.cells (#[QY QU (i:Nat),QY QU pa,QY QU pb,QZ tx,QQ QK 0 0]) 74) (XZ h ap.o.2)).trans (bm.o b h));refine ca_ 23 85 (.agg (#[QY QU (i:Nat),QY QU pa,QY QU pb,QZ tx,QQ QK 0 0])) c (λw f=>?_) λc=>?_
        ·refine k_ (Eq.trans (congrArg (λx=>Sem.run QW (Instr.build 74 x) w) ?_) (Bm_ (i:Nat) pa pb tx w));kernel_rfl
        refine d7_ 24 λK k=>?_;refine dk_ 52 1 _ rfl #[(0,.agg (#[QY QU (i:Nat),QY QU pa,QY QU pb,QZ tx,QQ QK 0 0]))] (by kernel_rfl) _ _ (wb_ _ _ _ _ _ _) ?_;dsimp only;refine d6_ k ⟨dp.o,(heap_alloc_old wk _ (b_ C.o.box)).trans C.o.box⟩ λc=>?_;refine d7_ 25 λK k=>?_;refine mn_ EdR.good _ _ 52 rfl (.agg #[QY QU 0,QY QU 0,QY QU 0,QZ ⟨#[]⟩,QQ QK 0 0]) underlying52 su_ rfl (by decide) (by decide) rfl C.o.own bd.o rfl (dk.o wk) rfl (s3_ _ _ _ _) (by have:=aa.o;have:=ao.o;omega) (λb h=>h.2) (λb h=>h.elim) (λb h=>h.elim) λg aq wg ho hg hl ar=>?_;have B:=q_ ((hg.block zg (b_ C.o.box) (λe=>by have:=(C.o.blk e.symm).1;have:=C.o.lt;omega)).trans C.o.box);have am:=q_ (show ∀b,b<wr.heap.size->wg.heap[b]?=wr.heap[b]? from λb h=>(hg.block b (XZ h ap.o.2) (λe=>by have:=(C.o.blk e.symm).1;have:=C.o.lt;have:=ap.o.1;omega)).trans (bm.o b h));have bj:=q_ ho;have bg:=q_ hg;have bi:=q_ hl;have bk:=q_ ar;clear ho hg hl ar;dsimp only;refine d6_ k ⟨am.o,B.o⟩ λc=>?_;refine k_wantV 26 88 (YK (QJ ⟨zg,1,QK⟩)) c λc=>?_;refine u8_ 27 λK k=>?_;refine dq_ 52 _ _ rfl zg 1 (#[N,E]) 54 (QQ (QJ ⟨g,0,QK⟩) (i+1) aq) rfl rfl (mf_ B.o (by show 1<2;omega) _ _ _) B.o λwh hw ht=>?_;have bh:=q_ (show GeM wq zg ze ns N (es++[⟨(i:Nat),pa,pb,tx,[]⟩]) (QQ (QJ ⟨g,0,QK⟩) (i+1) aq) wh from C.o.more (G:=λb=>False) (λb h=>h.elim) bg.o bi.o bk.o (bj.o.mono EdR.good λb h=>h) hw ht);have e3:=q_ (show ∀b,b<wr.heap.size->wh.heap[b]?=wr.heap[b]? from λb h=>(ht.block b (by have:=b_ B.o;have:=ap.o.1;omega) (λe=>by have e:b=zg:=e;have:=ap.o.1;omega)).trans (am.o b h));clear hw ht;refine Bz_ k ?_;go_wp2_with fail;go_roundw
        case rel=>exact⟨i+1,by have:=ao.o;omega,by go_num,q_ ⟨_,by rw[cn.o];exact bh.o⟩⟩
        case measure=>have:=ao.o;simp[intOf];omega
       ·have a2:¬(i:Int)<n:=by omega
        have EI:=q_ (show i=n from by omega);clear q hi;have ds:=q_ (show T.take i=T from YJ (by rw[HN.o];have:=EI.o;omega));rw[ds.o]at m;have bp:=q_ (show wx.heap[z]?=QJ (XX #[QQ QK 0 0,QQ QK 0 0] 54 (0,0)) from (bo.o z (XZ (b_ aj.o) a3.o.size)).trans ((a3.o.block z (b_ aj.o)).trans aj.o));obtain⟨AN,qN,eN,d6,dg⟩:=m.o.nodes.rd NoR.good;obtain⟨AE,qE,eE,d5,df⟩:=m.o.own.rd EdR.good;obtain⟨nN,ek⟩:=a_ ns.length;obtain⟨nE,eh⟩:=a_ (c2_ D T).length;have da:=(show GrR wx (λb=>zg<b/\b<wx.heap.size) (bn_ T) (.agg #[N,E]) from by rw[bl.o,b7.o];refine⟨_,_,rfl,⟨AN,qN,eN,by have:=d6;omega,dg.mono NoR.good (λb h=>⟨h.1,by have:=m.o.lt;omega⟩)⟩,⟨AE,qE,eE,by have:=d5;omega,df.mono EdR.good (λb h=>⟨by have:=m.o.lt;omega,h.2⟩)⟩⟩);rw[ek.o]at eN;rw[eh.o]at eE;subst eN;subst eE;have dy:=q_ da;clear d6 dg d5 df da;have cj:=q_ (C8_ (bn_ T) (Bu_ (by rw[HD.o,X.o];exact I.o) (by rw[HN.o];have:=aa.o;omega) (by rw[HD.o];exact c4.o) (by rw[HD.o];exact b3.o) (λt ht=>(y.o t ht).get 1)) (λb=>zg<b/\b<wx.heap.size) _ wx (λb h=>h.2) dy.o);go_wp2_with ((with_reducible refine d_ (some 89) ?_);refine G_ rfl 54 _ rfl zg 0 rfl (#[QQ AN nN qN,QQ AE nE qE]) _ (m_ m.o.box) underlying54 rfl (P_ _ _) ?_)
        refine cj.o.mono ?_;rintro e w9 ⟨XN,XE,z2,rfl,b8,et,eu,cd,cb⟩;obtain⟨A1,c1,_,_,eq,_⟩:=id cd;obtain⟨A2,c2,_,_,er,_⟩:=id cb;subst eq er;obtain⟨n1,ef⟩:=a_ (bn_ T).nodes.length;obtain⟨n2,eg⟩:=a_ (bn_ T).edges.length
        have B:=q_ (show GrR w9 (λb=>wx.heap.size<=b/\b<w9.heap.size) (bn_ T) (.agg #[QQ A1 (bn_ T).nodes.length c1,QQ A2 (bn_ T).edges.length c2]) from
         ⟨_,_,rfl,(((Ck_ (R':=NoR) (cd.sown NoO.good) (λh=>NoO.rd h)).rd NoR.good).mono NoR.good (λb hb=>by omega)),(((Ck_ (R':=EdR) (cb.sown EdO.good) (λh=>EdO.rd h)).rd EdR.good).mono EdR.good (λb hb=>by omega))⟩)
        rw[ef.o,eg.o]at B ⊢;have ew:=q_ b8;have dt:=q_ (show XW w.heap.size w w6 from (a8.o.trans (a3.o.mono a8.o.size)).trans (b9.o.mono (ZX a8.o.size a3.o.size)));have d1:=q_ (show w.heap.size<=zg from by have h1:=a8.o.size;have h2:=a3.o.size;have h3:wr.heap.size=zg:=M.o;omega);have ci:=q_ (show XW w.heap.size w wx from h_ (h_ dt.o V.o.t (λb h=>by have:=d1.o;omega)) m.o.t (λb h=>by have h1:=d1.o;have h2:=m.o.lt;rcases h with h | h<;>omega))
        have du:=q_ (ci.o.trans (b8.mono ci.o.size));have dz:=q_ ((b8.block z (b_ bp.o)).trans bp.o);have c7:=q_ (show w.heap.size=z/\z<wx.heap.size from ⟨HZ.o,b_ bp.o⟩)
        have b2:=q_ (show ∀wy:QV,Turn (λb=>b=z) w9 wy->GrR wy (λb=>w.heap.size<=b/\b<wy.heap.size) (bn_ T) (.agg #[QQ A1 n1 c1,QQ A2 n2 c2])/\XW w.heap.size w wy from λwy ht=>
         ⟨(B.o.keep (w':=wy) (λp hp=>ht.cell (by have:=hp.2;omega) (λe=>by have e:p.block=z:=e;have:=c7.o.2;have:=hp.1;omega))).mono (λb h=>by have h1:=ht.size;have h2:=c7.o;omega),h_ du.o ht (λb e=>by have e:b=z:=e;have:=c7.o.1;omega)⟩)
        clear b8 et eu cd cb cj;go_wp2_with ((with_reducible refine w_ 2 ?_);refine o_ rfl 54 _ _ rfl z (#[QQ QK 0 0,QQ QK 0 0]) (#[QQ A1 n1 c1,QQ A2 n2 c2]) 54 rfl rfl dz.o rfl (P_ _ _) (cz_ _ _ _ _ _ _) ?_;intro wy ep di)
        refine ZV (v:=ZJ #[.agg #[QQ A1 n1 c1,QQ A2 n2 c2],QY QU 0]) (cn_ results26 (g:=z) rfl ep _ underlying54 rfl (P_ _ _) rfl) rfl (.inr ⟨c6.o.1,c6.o.2,_,_,rfl,?_,(b2.o wy di).2⟩);rw[HT.o];exact (b2.o wy di).1
end
section
open Go Go.RowKit
theorem uu_ (l:List ByteArray) (F G:Nat->Prop) (A B:Option Addr) (n m r:Nat) (w:QV) (h1:SRd 1 TxR w F l A n) (h2:SRd 1 TxR w G l B n) (y:n<=1000000000) :
    Calls QW 139 #[QQ A n m,QQ B n r] w (F4_ true w):=by
 have g:=q_ h1;have h:=q_ h2;have j:=q_ h1.1;clear h1 h2;have D:((n:Int) != n)=false:=bne_self_eq_false _;go_enter func139,ntmps139
 go_wp2_with fail;go_loopw [5] (λc wx=>∃k q:Nat,k<=n/\c = QY QU (k:Nat)/\Q_ (wx=w.drewN q)) (λc _=>n-(intOf c).toNat)
 case atStart=>exact⟨0,0,by omega,rfl,q_ rfl⟩
 case round=>
  obtain⟨k,q,v,rfl,a⟩:=hrel;by_cases f:k<n
  ·obtain⟨x,b⟩:∃x,l[k]?=QJ x:=⟨l[k]'(by rw[<-j.o];exact f),XQ _⟩;obtain⟨ad,rfl,_,z⟩:=A9_ (g.o.keep TxR.good (w':=wr) (λp _=>by rw[a.o];rfl)) b;obtain⟨s,rfl,_,C⟩:=A9_ (h.o.keep TxR.good (w':=wr) (λp _=>by rw[a.o];rfl)) b;clear b;have t:(0:Int)<=k:=by omega
   have u:(k:Int)<n:=by omega
   have I:IntKind.i64.wrap ((k:Int)+1)=(k:Int)+1:=YU _ (by omega);have E:(x.toList != x.toList)=false:=bne_self_eq_false _;go_upto_region 6 with fail;go_quiet (fail)
   have i:=q_ (show wr.drewN nq=w.drewN (q+nq) by rw[a.o,World.drewN_drewN]);clear a;go_wp2_with fail;go_roundw
   case rel=>exact⟨k+1,q+nq,by omega,by go_num,i⟩
   case measure=>simp[intOf];omega
  ·have e:n=k:=by omega
   subst e;go_wp2_with fail;go_ret;exact⟨rfl,q,a.o⟩
theorem ln_ (l:List J_) (C:∀p,p∈l->zf_ p) (F G:Nat->Prop) (A B:Option Addr) (n c1 c2:Nat) (w:QV) (hF:∀b,F b->b<w.heap.size) (hG:∀b,G b->b<w.heap.size) (h1:SRd 7 PaR w F l A n) (h2:SRd 7 PaR w G l B n) (hn:n<=1000000000) :
    Calls QW 140 #[QQ A n c1,QQ B n c2] w (n_ true w):=by
 have H1:=q_ (h1.mono PaR.good hF);have H2:=q_ (h2.mono PaR.good hG);have L1:=q_ h1.1;have V:=q_ C;clear h1 h2 hF hG C;have t0:((n:Int) != n)=false:=bne_self_eq_false _;go_enter func140,ntmps140
 go_wp2_with fail;go_loopw [5] (λs5 wx=>∃k:Nat,k<=n/\s5 = QY QU (k:Nat)/\Q_ (XW w.heap.size w wx)) (λs5 _=>n-(intOf s5).toNat)
 case atStart=>exact⟨0,by omega,rfl,q_ (XV _ _)⟩
 case round=>
  obtain⟨k,hk,rfl,z⟩:=hrel;by_cases a5:k<n
  ·obtain⟨x,L⟩:∃x,l[k]?=QJ x:=⟨l[k]'(by rw[<-L1.o];exact a5),XQ _⟩;have a1:=q_ (V.o x (YZ L));have i:w.heap.size<=wr.heap.size:=z.o.size;obtain⟨ad,s,rfl,S,X,p0,p1,p2,p3,p4,p5,Y⟩:=l8_ (H1.o.under PaR.good z.o (λb hb=>hb)) L;obtain⟨c,s2,rfl,T,D,q0,q1,q2,q3,q4,q5,Z⟩:=l8_ (H2.o.under PaR.good z.o (λb hb=>hb)) L;obtain⟨E,t,J,_,_⟩:=X.inv;injection J with J;obtain rfl:s = QQ E x.v.list.length t:=by have:=congrArg (λa:Array XJ=>a[5]?) J;simpa [c_] using this
   obtain⟨I,u,y,_,_⟩:=D.inv;injection y with y;obtain rfl:s2 = QQ I x.v.list.length u:=by have:=congrArg (λa:Array XJ=>a[5]?) y;simpa [c_] using this
   have j:=q_ (show (ad.add (k*7)).block<wr.drew.heap.size from by rw[block_of_add];exact XZ S i);have q:=q_ (show (c.add (k*7)).block<wr.drew.heap.size from by rw[block_of_add];exact XZ T i);have h:=Et_ x.v x.v (by have:=a1.o.2;omega) (λb=>b<w.heap.size) (λb=>b<w.heap.size) (.agg (c_ x.v (QQ E x.v.list.length t))) (.agg (c_ x.v (QQ I x.v.list.length u))) wr.drew (λb hb=>XZ hb i) (λb hb=>XZ hb i) (X.keep (λ_ _=>rfl)) (D.keep (λ_ _=>rfl));rw[kx_]at h;unfold c_ at h;obtain⟨M,a3⟩:=a_ x.v.list.length;rw[a3.o]at Y Z h;have a2:=q_ h;have m:=q_ (And.intro p0 (And.intro p1 (And.intro p2 (And.intro p3 (And.intro p4 (And.intro p5 Y))))));have r:=q_ (And.intro q0 (And.intro q1 (And.intro q2 (And.intro q3 (And.intro q4 (And.intro q5 Z))))));have R:=q_ (λ(W:QV) (g:XW wr.drew.heap.size wr.drew W)=>(show W.cell? (ad.add (k*7))=QJ (QZ x.key)/\W.cell? ⟨(ad.add (k*7)).block,(ad.add (k*7)).off+1,QK⟩=QJ (QY QU x.v.kind)/\W.cell? ⟨(ad.add (k*7)).block,(ad.add (k*7)).off+2,QK⟩=QJ (XY x.v.truth)/\W.cell? ⟨(ad.add (k*7)).block,(ad.add (k*7)).off+3,QK⟩=QJ (QY QU x.v.num)/\W.cell? ⟨(ad.add (k*7)).block,(ad.add (k*7)).off+4,QK⟩=QJ (QZ x.v.text)/\W.cell? ⟨(ad.add (k*7)).block,(ad.add (k*7)).off+5,QK⟩=QJ (QZ x.v.extra)/\W.cell? ⟨(ad.add (k*7)).block,(ad.add (k*7)).off+6,QK⟩=QJ (QQ E M t)/\W.cell? (c.add (k*7))=QJ (QZ x.key)/\W.cell? ⟨(c.add (k*7)).block,(c.add (k*7)).off+1,QK⟩=QJ (QY QU x.v.kind)/\W.cell? ⟨(c.add (k*7)).block,(c.add (k*7)).off+2,QK⟩=QJ (XY x.v.truth)/\W.cell? ⟨(c.add (k*7)).block,(c.add (k*7)).off+3,QK⟩=QJ (QY QU x.v.num)/\W.cell? ⟨(c.add (k*7)).block,(c.add (k*7)).off+4,QK⟩=QJ (QZ x.v.text)/\W.cell? ⟨(c.add (k*7)).block,(c.add (k*7)).off+5,QK⟩=QJ (QZ x.v.extra)/\W.cell? ⟨(c.add (k*7)).block,(c.add (k*7)).off+6,QK⟩=QJ (QQ I M u) from ⟨(g.cell (p:=ad.add (k*7)) j.o).trans m.o.1,(g.cell (p:=⟨(ad.add (k*7)).block,(ad.add (k*7)).off+1,QK⟩) j.o).trans m.o.2.1,(g.cell (p:=⟨(ad.add (k*7)).block,(ad.add (k*7)).off+2,QK⟩) j.o).trans m.o.2.2.1,(g.cell (p:=⟨(ad.add (k*7)).block,(ad.add (k*7)).off+3,QK⟩) j.o).trans m.o.2.2.2.1,(g.cell (p:=⟨(ad.add (k*7)).block,(ad.add (k*7)).off+4,QK⟩) j.o).trans m.o.2.2.2.2.1,(g.cell (p:=⟨(ad.add (k*7)).block,(ad.add (k*7)).off+5,QK⟩) j.o).trans m.o.2.2.2.2.2.1,(g.cell (p:=⟨(ad.add (k*7)).block,(ad.add (k*7)).off+6,QK⟩) j.o).trans m.o.2.2.2.2.2.2,(g.cell (p:=c.add (k*7)) q.o).trans r.o.1,(g.cell (p:=⟨(c.add (k*7)).block,(c.add (k*7)).off+1,QK⟩) q.o).trans r.o.2.1,(g.cell (p:=⟨(c.add (k*7)).block,(c.add (k*7)).off+2,QK⟩) q.o).trans r.o.2.2.1,(g.cell (p:=⟨(c.add (k*7)).block,(c.add (k*7)).off+3,QK⟩) q.o).trans r.o.2.2.2.1,(g.cell (p:=⟨(c.add (k*7)).block,(c.add (k*7)).off+4,QK⟩) q.o).trans r.o.2.2.2.2.1,(g.cell (p:=⟨(c.add (k*7)).block,(c.add (k*7)).off+5,QK⟩) q.o).trans r.o.2.2.2.2.2.1,(g.cell (p:=⟨(c.add (k*7)).block,(c.add (k*7)).off+6,QK⟩) q.o).trans r.o.2.2.2.2.2.2⟩));have s1:=q_ (R.o wr.drew (XV _ _));have P:=q_ (show XW w.heap.size w wr.drew from z.o.drew);have e1:(0:Int)<=k:=by omega
   have e2:(k:Int)<n:=by omega
   have w1:IntKind.i64.wrap ((k:Int)+1)=(k:Int)+1:=YU _ (by omega);have u1:(x.key.toList != x.key.toList)=false:=bne_self_eq_false _;clear L S T X D J y h z i;go_upto_region 6 with fail;clear p0 p1 p2 p3 p4 p5 Y q0 q1 q2 q3 q4 q5 Z
   go_region_held3 (λf=>f.cell? (ad.add (k*7))=QJ (QZ x.key)/\f.cell? ⟨(ad.add (k*7)).block,(ad.add (k*7)).off+1,QK⟩=QJ (QY QU x.v.kind)/\f.cell? ⟨(ad.add (k*7)).block,(ad.add (k*7)).off+2,QK⟩=QJ (XY x.v.truth)/\f.cell? ⟨(ad.add (k*7)).block,(ad.add (k*7)).off+3,QK⟩=QJ (QY QU x.v.num)/\f.cell? ⟨(ad.add (k*7)).block,(ad.add (k*7)).off+4,QK⟩=QJ (QZ x.v.text)/\f.cell? ⟨(ad.add (k*7)).block,(ad.add (k*7)).off+5,QK⟩=QJ (QZ x.v.extra)/\f.cell? ⟨(ad.add (k*7)).block,(ad.add (k*7)).off+6,QK⟩=QJ (QQ E M t)/\f.cell? (c.add (k*7))=QJ (QZ x.key)/\f.cell? ⟨(c.add (k*7)).block,(c.add (k*7)).off+1,QK⟩=QJ (QY QU x.v.kind)/\f.cell? ⟨(c.add (k*7)).block,(c.add (k*7)).off+2,QK⟩=QJ (XY x.v.truth)/\f.cell? ⟨(c.add (k*7)).block,(c.add (k*7)).off+3,QK⟩=QJ (QY QU x.v.num)/\f.cell? ⟨(c.add (k*7)).block,(c.add (k*7)).off+4,QK⟩=QJ (QZ x.v.text)/\f.cell? ⟨(c.add (k*7)).block,(c.add (k*7)).off+5,QK⟩=QJ (QZ x.v.extra)/\f.cell? ⟨(c.add (k*7)).block,(c.add (k*7)).off+6,QK⟩=QJ (QQ I M u)) (first | exact s1.o | exact s2.o | (trace_state;fail))
    (first
     | (go_at_call 22;(with_reducible refine a2.o.mono ?_);rintro e w8 ⟨rfl,U⟩;have O:=q_ (show XW wr.drew.heap.size wr.drew w8 from U);have s2:=q_ (R.o w8 O.o);clear U))
   have a0:=q_ (P.o.trans (O.o.mono P.o.size));go_wp2_with fail;go_roundw
   case rel=>exact⟨k+1,by omega,by go_num,a0⟩
   case measure=>simp[intOf];omega
  ·have a4:n=k:=by omega
   subst a4;go_wp2_with fail;go_ret;exact⟨rfl,z.o⟩
theorem wx_ (x:i_) (f:rm_ x) (F G:Nat->Prop) (Y Z:XJ) (w:QV) (C:∀b,F b->b<w.heap.size) (D:∀b,G b->b<w.heap.size) {U V:Array XJ} (e1:Y = .agg U) (e2:Z = .agg V) (h1:NoR w F x U) (h2:NoR w G x V) :
    Calls QW 75 #[Y,Z] w (n_ true w):=by
 obtain⟨_,_,rfl,⟨i,u,rfl,_,M⟩,j,v,rfl,_,O⟩:=h1;obtain⟨_,_,rfl,⟨k,y,rfl,_,P⟩,l,A,rfl,_,R⟩:=h2;subst e1 e2;obtain⟨id,L⟩:=a_ x.id;obtain⟨a,s⟩:=a_ x.labels.length;obtain⟨c,t⟩:=a_ x.props.length;have a0:a<=2000000:=by rw[<-s.o];exact f.1
 have a3:c<=2000000:=by rw[<-t.o];exact f.2.1
 rw[L.o,s.o,t.o];rw[s.o]at M P;rw[t.o]at O R;obtain⟨z,B⟩:=a_ w.heap.size;obtain⟨w2,g⟩:=a_ ((w.alloc (XX #[QY QU id,QQ i a u,QQ j c v] 72)).alloc (XX #[QY QU id,QQ k a y,QQ l c A] 72));have m:=q_ (show XW w.heap.size w w2 from by rw[<-g.o];exact F_ w _ _);have q:=q_ (show w2.heap[z]?=QJ (XX #[QY QU id,QQ i a u,QQ j c v] 72 (0,0)) from by rw[<-g.o,Below.heap_alloc _ _ _ (by rw[<-B.o];simp),<-B.o];exact XU w _);have r:=q_ (show w2.heap[z+1]?=QJ (XX #[QY QU id,QQ k a y,QQ l c A] 72 (0,0)) from by have:=XU (w.alloc (XX #[QY QU id,QQ i a u,QQ j c v] 72)) (XX #[QY QU id,QQ k a y,QQ l c A] 72);rw[g.o]at this;simpa [B.o] using this);have X:=q_ (uu_ x.labels F G i k a u y w2 (M.under TxR.good m.o C) (P.under TxR.good m.o D) (by omega));have T:=q_ (λ(W:QV) (E:XW w.heap.size w W)=>ln_ x.props f.2.2.2 F G j l c v A W (λb hb=>XZ (C b hb) E.size) (λb hb=>XZ (D b hb) E.size) (O.under PaR.good E C) (R.under PaR.good E D) (by omega));have x0:w2.cell? ⟨z,0,QK⟩=QJ (QY QU id):=QX q.o 0;have x1:w2.cell? ⟨z,1,QK⟩=QJ (QQ i a u):=QX q.o 1;have y0:w2.cell? ⟨z+1,0,QK⟩=QJ (QY QU id):=QX r.o 0;have y1:w2.cell? ⟨z+1,1,QK⟩=QJ (QQ k a y):=QX r.o 1;have t0:(id==id)=true:=beq_self_eq_true id;clear M P O R C D f;go_enter func75,ntmps75
 go_upto_region 1 with fail;rw[g.o,B.o];go_wp2_with fail;refine X.o.mono ?_;rintro e I ⟨rfl,m3,h⟩;have n:=q_ (show XW w.heap.size w I from by rw[h];exact dy_ m.o m3);have x2:I.cell? ⟨z,2,QK⟩=QJ (QQ j c v):=by rw[h];exact QX q.o 2
 have y2:I.cell? ⟨z+1,2,QK⟩=QJ (QQ l c A):=by rw[h];exact QX r.o 2
 clear h x0 x1 y0 y1;go_wp2_with fail;refine (T.o I n.o).mono ?_;rintro e w4 ⟨rfl,J⟩;have S:=q_ (n.o.trans (J.mono n.o.size));clear J x2 y2;go_wp2_with fail;go_ret;exact⟨rfl,S.o⟩
theorem ww_ (x:l_) (i:My_ x) (F G:Nat->Prop) (M O:XJ) (w:QV) (A:∀b,F b->b<w.heap.size) (B:∀b,G b->b<w.heap.size) {I J:Array XJ} (P:M = .agg I) (R:O = .agg J) (h1:EdR w F x I) (h2:EdR w G x J) :
    Calls QW 76 #[M,O] w (n_ true w):=by
 obtain⟨_,rfl,k,n,rfl,_,C⟩:=h1;obtain⟨_,rfl,l,q,rfl,_,D⟩:=h2;subst P R;obtain⟨id,u⟩:=a_ x.id;obtain⟨src,v⟩:=a_ x.src;obtain⟨dst,t⟩:=a_ x.dst;obtain⟨a,y⟩:=a_ x.type;obtain⟨c,m⟩:=a_ x.props.length;have S:c<=2000000:=by rw[<-m.o];exact i.2.1
 rw[u.o,v.o,t.o,y.o,m.o];rw[m.o]at C D;obtain⟨z,r⟩:=a_ w.heap.size;obtain⟨w2,j⟩:=a_ ((w.alloc (XX #[QY QU id,QY QU src,QY QU dst,QZ a,QQ k c n] 74)).alloc (XX #[QY QU id,QY QU src,QY QU dst,QZ a,QQ l c q] 74));have f:=q_ (show XW w.heap.size w w2 from by rw[<-j.o];exact F_ w _ _);have g:=q_ (show w2.heap[z]?=QJ (XX #[QY QU id,QY QU src,QY QU dst,QZ a,QQ k c n] 74 (0,0)) from by rw[<-j.o,Below.heap_alloc _ _ _ (by rw[<-r.o];simp),<-r.o];exact XU w _);have h:=q_ (show w2.heap[z+1]?=QJ (XX #[QY QU id,QY QU src,QY QU dst,QZ a,QQ l c q] 74 (0,0)) from by have:=XU (w.alloc (XX #[QY QU id,QY QU src,QY QU dst,QZ a,QQ k c n] 74)) (XX #[QY QU id,QY QU src,QY QU dst,QZ a,QQ l c q] 74);rw[j.o]at this;simpa [r.o] using this);have L:=q_ (ln_ x.props i.2.2 F G k l c n q w2 (λb hb=>XZ (A b hb) f.o.size) (λb hb=>XZ (B b hb) f.o.size) (C.under PaR.good f.o A) (D.under PaR.good f.o B) (by omega));have Z:w2.cell? ⟨z,0,QK⟩=QJ (QY QU id):=QX g.o 0;have x1:w2.cell? ⟨z,1,QK⟩=QJ (QY QU src):=QX g.o 1;have x2:w2.cell? ⟨z,2,QK⟩=QJ (QY QU dst):=QX g.o 2;have x3:w2.cell? ⟨z,3,QK⟩=QJ (QZ a):=QX g.o 3;have x4:w2.cell? ⟨z,4,QK⟩=QJ (QQ k c n):=QX g.o 4;have y0:w2.cell? ⟨z+1,0,QK⟩=QJ (QY QU id):=QX h.o 0;have y1:w2.cell? ⟨z+1,1,QK⟩=QJ (QY QU src):=QX h.o 1;have y2:w2.cell? ⟨z+1,2,QK⟩=QJ (QY QU dst):=QX h.o 2;have y3:w2.cell? ⟨z+1,3,QK⟩=QJ (QZ a):=QX h.o 3;have y4:w2.cell? ⟨z+1,4,QK⟩=QJ (QQ l c q):=QX h.o 4;have T:(id==id)=true:=beq_self_eq_true id;have U:(src==src)=true:=beq_self_eq_true src;have V:(dst==dst)=true:=beq_self_eq_true dst;have X:(a.toList==a.toList)=true:=beq_self_eq_true a.toList;clear C D A B i;go_enter func76,ntmps76
 go_upto_region 1 with fail;rw[j.o,r.o];go_wp2_with fail;refine L.o.mono ?_;rintro e Y ⟨rfl,s⟩;have E:=q_ (f.o.trans (s.mono f.o.size));clear s;go_wp2_with fail;go_ret;exact⟨rfl,E.o⟩
theorem us_ (g:D_) (E:j3_ g) (F G:Nat->Prop) (u1 u2:XJ) (w:QV) (hF:∀b,F b->b<w.heap.size) (hG:∀b,G b->b<w.heap.size) (h1:GrR w F g u1) (h2:GrR w G g u2) :
    Calls QW 27 #[u1,u2] w (n_ true w):=by
 obtain⟨_,_,rfl,⟨AN,cN,rfl,_,l1⟩,AE,cE,rfl,_,l2⟩:=h1;obtain⟨_,_,rfl,⟨BN,dN,rfl,_,Z⟩,BE,dE,rfl,_,q⟩:=h2;have aa:=q_ E;obtain⟨h,a7⟩:=a_ g.nodes.length;obtain⟨f,a6⟩:=a_ g.edges.length;have ap:h<=2000000:=by rw[<-a7.o];exact E.1
 have aq:f<=2000000:=by rw[<-a6.o];exact E.2.1
 rw[a7.o,a6.o];rw[a7.o]at l1 Z;rw[a6.o]at l2 q;obtain⟨z,HZ⟩:=a_ w.heap.size;obtain⟨w2,a5⟩:=a_ ((w.alloc (XX #[QQ AN h cN,QQ AE f cE] 54)).alloc (XX #[QQ BN h dN,QQ BE f dE] 54));have m:=q_ (show XW w.heap.size w w2 from by rw[<-a5.o];exact F_ w _ _);have O:=q_ (show w2.heap[z]?=QJ (XX #[QQ AN h cN,QQ AE f cE] 54 (0,0)) from by rw[<-a5.o,Below.heap_alloc _ _ _ (by rw[<-HZ.o];simp),<-HZ.o];exact XU w _);have P:=q_ (show w2.heap[z+1]?=QJ (XX #[QQ BN h dN,QQ BE f dE] 54 (0,0)) from by have:=XU (w.alloc (XX #[QQ AN h cN,QQ AE f cE] 54)) (XX #[QQ BN h dN,QQ BE f dE] 54);rw[a5.o]at this;simpa [HZ.o] using this);have r:=q_ (And.intro (b_ O.o) (b_ P.o));have am:=q_ ((l1.under NoR.good m.o hF).mono NoR.good (F':=λb=>b<w2.heap.size) (λb hb=>XZ (hF b hb) m.o.size));have ao:=q_ ((Z.under NoR.good m.o hG).mono NoR.good (F':=λb=>b<w2.heap.size) (λb hb=>XZ (hG b hb) m.o.size));have aj:=q_ ((l2.under EdR.good m.o hF).mono EdR.good (F':=λb=>b<w2.heap.size) (λb hb=>XZ (hF b hb) m.o.size));have ak:=q_ ((q.under EdR.good m.o hG).mono EdR.good (F':=λb=>b<w2.heap.size) (λb hb=>XZ (hG b hb) m.o.size));have x0:w2.cell? ⟨z,0,QK⟩=QJ (QQ AN h cN):=QX O.o 0;have x1:w2.cell? ⟨z,1,QK⟩=QJ (QQ AE f cE):=QX O.o 1;have y0:w2.cell? ⟨z+1,0,QK⟩=QJ (QQ BN h dN):=QX P.o 0;have y1:w2.cell? ⟨z+1,1,QK⟩=QJ (QQ BE f dE):=QX P.o 1;have t0:((h:Int) != h)=false:=bne_self_eq_false _;have t1:((f:Int) != f)=false:=bne_self_eq_false _;clear l1 Z l2 q hF hG E;go_enter func27,ntmps27
 go_upto_region 1 with fail;rw[a5.o,HZ.o];go_upto_region 3 with fail;go_wp2_with fail;clear x0 x1 y0 y1 t0 t1;go_loopw [5] (λs wx=>∃k:Nat,k<=h/\s = QY QU (k:Nat)/\Q_ (XW w2.heap.size w2 wx)) (λs _=>h-(intOf s).toNat)
 case atStart=>exact⟨0,by omega,rfl,q_ (XV _ _)⟩
 case round=>
  obtain⟨k,hk,rfl,l⟩:=hrel;have u:=(l.o.block z r.o.1).trans O.o;have v:=(l.o.block (z+1) r.o.2).trans P.o;have x0:wr.cell? ⟨z,0,none⟩=some (QQ AN h cN):=QX u 0;have y0:wr.cell? ⟨z+1,0,none⟩=some (QQ BN h dN):=QX v 0;by_cases ag:k<h
  ·obtain⟨x,I⟩:∃x,g.nodes[k]?=QJ x:=⟨g.nodes[k]'(by rw[a7.o];exact ag),XQ _⟩;have ab:=q_ (aa.o.2.2.1 x (YZ I)).1;have c:w2.heap.size<=wr.heap.size:=l.o.size;obtain⟨ad,A1,a1,A2,a2,rfl,T,V,_,_,p0,p1,p2⟩:=jk_ (am.o.under NoR.good l.o (λb hb=>hb)) I;obtain⟨a,B1,b1,B2,b2,rfl,U,X,_,_,q0,q1,q2⟩:=jk_ (ao.o.under NoR.good l.o (λb hb=>hb)) I;have y:=wx_ x ab.o (λb=>b<w2.heap.size) (λb=>b<w2.heap.size) _ _ wr.drew (λb hb=>XZ hb c) (λb hb=>XZ hb c) rfl rfl (NoR.good.keep V (w':=wr.drew) (λ_ _=>rfl)) (NoR.good.keep X (w':=wr.drew) (λ_ _=>rfl));obtain⟨id,n⟩:=a_ x.id;obtain⟨Z,ae⟩:=a_ x.labels.length;obtain⟨q,t⟩:=a_ x.props.length;rw[n.o,ae.o,t.o]at y;rw[n.o]at p0;rw[ae.o]at p1;rw[t.o]at p2;rw[n.o]at q0;rw[ae.o]at q1;rw[t.o]at q2;have ac:=q_ y;have B:=q_ (And.intro p0 (And.intro p1 p2));have D:=q_ (And.intro q0 (And.intro q1 q2));have L:=q_ (And.intro x0 y0);have S:=q_ (And.intro (show z<wr.drew.heap.size from XZ r.o.1 c) (show z+1<wr.drew.heap.size from XZ r.o.2 c));have A:=q_ (show (ad.add (k*3)).block<wr.drew.heap.size from by rw[block_of_add];exact XZ T c);have C:=q_ (show (a.add (k*3)).block<wr.drew.heap.size from by rw[block_of_add];exact XZ U c);have R:=q_ (λ(W:QV) (j:XW wr.drew.heap.size wr.drew W)=>(show W.cell? ⟨z,0,QK⟩=QJ (QQ (QJ ad) h cN)/\W.cell? ⟨z+1,0,QK⟩=QJ (QQ (QJ a) h dN)/\W.cell? (ad.add (k*3))=QJ (QY QU id)/\W.cell? ⟨(ad.add (k*3)).block,(ad.add (k*3)).off+1,QK⟩=QJ (QQ A1 Z a1)/\W.cell? ⟨(ad.add (k*3)).block,(ad.add (k*3)).off+2,QK⟩=QJ (QQ A2 q a2)/\W.cell? (a.add (k*3))=QJ (QY QU id)/\W.cell? ⟨(a.add (k*3)).block,(a.add (k*3)).off+1,QK⟩=QJ (QQ B1 Z b1)/\W.cell? ⟨(a.add (k*3)).block,(a.add (k*3)).off+2,QK⟩=QJ (QQ B2 q b2) from ⟨(j.cell (p:=⟨z,0,QK⟩) S.o.1).trans L.o.1,(j.cell (p:=⟨z+1,0,QK⟩) S.o.2).trans L.o.2,(j.cell (p:=ad.add (k*3)) A.o).trans B.o.1,(j.cell (p:=⟨(ad.add (k*3)).block,(ad.add (k*3)).off+1,QK⟩) A.o).trans B.o.2.1,(j.cell (p:=⟨(ad.add (k*3)).block,(ad.add (k*3)).off+2,QK⟩) A.o).trans B.o.2.2,(j.cell (p:=a.add (k*3)) C.o).trans D.o.1,(j.cell (p:=⟨(a.add (k*3)).block,(a.add (k*3)).off+1,QK⟩) C.o).trans D.o.2.1,(j.cell (p:=⟨(a.add (k*3)).block,(a.add (k*3)).off+2,QK⟩) C.o).trans D.o.2.2⟩));have s1:=q_ (R.o wr.drew (XV _ _));have M:=q_ (show XW w2.heap.size w2 wr.drew from l.o.drew);have e1:(0:Int)<=k:=by omega
   have e2:(k:Int)<h:=by omega
   have w1:IntKind.i64.wrap ((k:Int)+1)=(k:Int)+1:=YU _ (by omega);clear I T U V X y l c u v;go_upto_region 6 with fail;clear p0 p1 p2 q0 q1 q2 x0 y0
   go_region_held3 (λi=>i.cell? ⟨z,0,QK⟩=QJ (QQ (QJ ad) h cN)/\i.cell? ⟨z+1,0,QK⟩=QJ (QQ (QJ a) h dN)/\i.cell? (ad.add (k*3))=QJ (QY QU id)/\i.cell? ⟨(ad.add (k*3)).block,(ad.add (k*3)).off+1,QK⟩=QJ (QQ A1 Z a1)/\i.cell? ⟨(ad.add (k*3)).block,(ad.add (k*3)).off+2,QK⟩=QJ (QQ A2 q a2)/\i.cell? (a.add (k*3))=QJ (QY QU id)/\i.cell? ⟨(a.add (k*3)).block,(a.add (k*3)).off+1,QK⟩=QJ (QQ B1 Z b1)/\i.cell? ⟨(a.add (k*3)).block,(a.add (k*3)).off+2,QK⟩=QJ (QQ B2 q b2)) (first | exact s1.o | exact s2.o | (trace_state;fail))
    (first
     | (go_at_call 75;(with_reducible refine ac.o.mono ?_);rintro e w8 ⟨rfl,Y⟩;have J:=q_ (show XW wr.drew.heap.size wr.drew w8 from Y);have s2:=q_ (R.o w8 J.o);clear Y))
   have a9:=q_ (M.o.trans (J.o.mono M.o.size));go_wp2_with fail;go_roundw
   case rel=>exact⟨k+1,by omega,by go_num,a9⟩
   case measure=>simp[intOf];omega
  ·have af:h=k:=by omega
   subst af;have ah:=q_ l.o;clear l u v;go_upto_region 8 with fail;go_wp2_with fail;clear x0 y0;go_loopw [6] (λs wx=>∃k:Nat,k<=f/\s = QY QU (k:Nat)/\Q_ (XW w2.heap.size w2 wx)) (λs _=>f-(intOf s).toNat)
   case atStart=>exact⟨0,by omega,rfl,ah⟩
   case round=>
    clear ah;obtain⟨k,hk,rfl,l⟩:=hrel;have u:=(l.o.block z r.o.1).trans O.o;have v:=(l.o.block (z+1) r.o.2).trans P.o;have x1:wr.cell? ⟨z,1,none⟩=some (QQ AE f cE):=QX u 1;have y1:wr.cell? ⟨z+1,1,none⟩=some (QQ BE f dE):=QX v 1;by_cases ag:k<f
    ·obtain⟨x,I⟩:∃x,g.edges[k]?=QJ x:=⟨g.edges[k]'(by rw[a6.o];exact ag),XQ _⟩;have ab:=q_ (aa.o.2.2.2 x (YZ I)).1;have c:w2.heap.size<=wr.heap.size:=l.o.size;obtain⟨ad,A2,a2,rfl,T,V,_,p0,p1,p2,p3,p4⟩:=jf_ (aj.o.under EdR.good l.o (λb hb=>hb)) I;obtain⟨a,B2,b2,rfl,U,X,_,q0,q1,q2,q3,q4⟩:=jf_ (ak.o.under EdR.good l.o (λb hb=>hb)) I;have y:=ww_ x ab.o (λb=>b<w2.heap.size) (λb=>b<w2.heap.size) _ _ wr.drew (λb hb=>XZ hb c) (λb hb=>XZ hb c) rfl rfl (EdR.good.keep V (w':=wr.drew) (λ_ _=>rfl)) (EdR.good.keep X (w':=wr.drew) (λ_ _=>rfl));obtain⟨id,n⟩:=a_ x.id;obtain⟨src,a3⟩:=a_ x.src;obtain⟨dst,a0⟩:=a_ x.dst;obtain⟨a8,a4⟩:=a_ x.type;obtain⟨q,t⟩:=a_ x.props.length;rw[n.o,a3.o,a0.o,a4.o,t.o]at y;rw[n.o]at p0;rw[a3.o]at p1;rw[a0.o]at p2;rw[a4.o]at p3;rw[t.o]at p4;rw[n.o]at q0;rw[a3.o]at q1;rw[a0.o]at q2;rw[a4.o]at q3;rw[t.o]at q4;have ac:=q_ y;have B:=q_ (And.intro p0 (And.intro p1 (And.intro p2 (And.intro p3 p4))));have D:=q_ (And.intro q0 (And.intro q1 (And.intro q2 (And.intro q3 q4))));have L:=q_ (And.intro x1 y1);have S:=q_ (And.intro (show z<wr.drew.heap.size from XZ r.o.1 c) (show z+1<wr.drew.heap.size from XZ r.o.2 c));have A:=q_ (show (ad.add (k*5)).block<wr.drew.heap.size from by rw[block_of_add];exact XZ T c);have C:=q_ (show (a.add (k*5)).block<wr.drew.heap.size from by rw[block_of_add];exact XZ U c);have R:=q_ (λ(W:QV) (j:XW wr.drew.heap.size wr.drew W)=>(show W.cell? ⟨z,1,QK⟩=QJ (QQ (QJ ad) f cE)/\W.cell? ⟨z+1,1,QK⟩=QJ (QQ (QJ a) f dE)/\W.cell? (ad.add (k*5))=QJ (QY QU id)/\W.cell? ⟨(ad.add (k*5)).block,(ad.add (k*5)).off+1,QK⟩=QJ (QY QU src)/\W.cell? ⟨(ad.add (k*5)).block,(ad.add (k*5)).off+2,QK⟩=QJ (QY QU dst)/\W.cell? ⟨(ad.add (k*5)).block,(ad.add (k*5)).off+3,QK⟩=QJ (QZ a8)/\W.cell? ⟨(ad.add (k*5)).block,(ad.add (k*5)).off+4,QK⟩=QJ (QQ A2 q a2)/\W.cell? (a.add (k*5))=QJ (QY QU id)/\W.cell? ⟨(a.add (k*5)).block,(a.add (k*5)).off+1,QK⟩=QJ (QY QU src)/\W.cell? ⟨(a.add (k*5)).block,(a.add (k*5)).off+2,QK⟩=QJ (QY QU dst)/\W.cell? ⟨(a.add (k*5)).block,(a.add (k*5)).off+3,QK⟩=QJ (QZ a8)/\W.cell? ⟨(a.add (k*5)).block,(a.add (k*5)).off+4,QK⟩=QJ (QQ B2 q b2) from ⟨(j.cell (p:=⟨z,1,QK⟩) S.o.1).trans L.o.1,(j.cell (p:=⟨z+1,1,QK⟩) S.o.2).trans L.o.2,(j.cell (p:=ad.add (k*5)) A.o).trans B.o.1,(j.cell (p:=⟨(ad.add (k*5)).block,(ad.add (k*5)).off+1,QK⟩) A.o).trans B.o.2.1,(j.cell (p:=⟨(ad.add (k*5)).block,(ad.add (k*5)).off+2,QK⟩) A.o).trans B.o.2.2.1,(j.cell (p:=⟨(ad.add (k*5)).block,(ad.add (k*5)).off+3,QK⟩) A.o).trans B.o.2.2.2.1,(j.cell (p:=⟨(ad.add (k*5)).block,(ad.add (k*5)).off+4,QK⟩) A.o).trans B.o.2.2.2.2,(j.cell (p:=a.add (k*5)) C.o).trans D.o.1,(j.cell (p:=⟨(a.add (k*5)).block,(a.add (k*5)).off+1,QK⟩) C.o).trans D.o.2.1,(j.cell (p:=⟨(a.add (k*5)).block,(a.add (k*5)).off+2,QK⟩) C.o).trans D.o.2.2.1,(j.cell (p:=⟨(a.add (k*5)).block,(a.add (k*5)).off+3,QK⟩) C.o).trans D.o.2.2.2.1,(j.cell (p:=⟨(a.add (k*5)).block,(a.add (k*5)).off+4,QK⟩) C.o).trans D.o.2.2.2.2⟩));have s1:=q_ (R.o wr.drew (XV _ _));have M:=q_ (show XW w2.heap.size w2 wr.drew from l.o.drew);have e1:(0:Int)<=k:=by omega
     have e2:(k:Int)<f:=by omega
     have w1:IntKind.i64.wrap ((k:Int)+1)=(k:Int)+1:=YU _ (by omega);clear I T U V X y l c u v;go_upto_region 11 with fail;clear p0 p1 p2 p3 p4 q0 q1 q2 q3 q4 x1 y1
     go_region_held3 (λi=>i.cell? ⟨z,1,QK⟩=QJ (QQ (QJ ad) f cE)/\i.cell? ⟨z+1,1,QK⟩=QJ (QQ (QJ a) f dE)/\i.cell? (ad.add (k*5))=QJ (QY QU id)/\i.cell? ⟨(ad.add (k*5)).block,(ad.add (k*5)).off+1,QK⟩=QJ (QY QU src)/\i.cell? ⟨(ad.add (k*5)).block,(ad.add (k*5)).off+2,QK⟩=QJ (QY QU dst)/\i.cell? ⟨(ad.add (k*5)).block,(ad.add (k*5)).off+3,QK⟩=QJ (QZ a8)/\i.cell? ⟨(ad.add (k*5)).block,(ad.add (k*5)).off+4,QK⟩=QJ (QQ A2 q a2)/\i.cell? (a.add (k*5))=QJ (QY QU id)/\i.cell? ⟨(a.add (k*5)).block,(a.add (k*5)).off+1,QK⟩=QJ (QY QU src)/\i.cell? ⟨(a.add (k*5)).block,(a.add (k*5)).off+2,QK⟩=QJ (QY QU dst)/\i.cell? ⟨(a.add (k*5)).block,(a.add (k*5)).off+3,QK⟩=QJ (QZ a8)/\i.cell? ⟨(a.add (k*5)).block,(a.add (k*5)).off+4,QK⟩=QJ (QQ B2 q b2)) (first | exact s1.o | exact s2.o | (trace_state;fail))
      (first
       | (go_at_call 76;(with_reducible refine ac.o.mono ?_);rintro e w8 ⟨rfl,Y⟩;have J:=q_ (show XW wr.drew.heap.size wr.drew w8 from Y);have s2:=q_ (R.o w8 J.o);clear Y))
     have a9:=q_ (M.o.trans (J.o.mono M.o.size));go_wp2_with fail;go_roundw
     case rel=>exact⟨k+1,by omega,by go_num,a9⟩
     case measure=>simp[intOf];omega
    ·have af:f=k:=by omega
     subst af;have ai:=q_ (show XW w.heap.size w wr from m.o.trans (l.o.mono m.o.size));clear l u v;go_wp2_with fail;go_ret;exact⟨rfl,ai.o⟩
end
section
open Go Go.RowKit Go.Maps
noncomputable def gOf (L:List e_):D_:=open Classical in if L.length<=65536/\L.all ch_=true then bn_ (an_ (s_ (aa_ 0)) L) else ⟨[],[]⟩
noncomputable def cOf (L:List e_):Int:=open Classical in if L.length<=65536/\L.all ch_=true then 0 else 20
def Fv_ (L:List e_) (w:QV) (e:Ending) (w':QV):Prop:=∃A n c B m d,e = YQ (ZJ #[.agg #[QQ A n c,QQ B m d],QY QU (cOf L)])/\GrR w' (λb=>w.heap.size<=b/\b<w'.heap.size) (gOf L) (.agg #[QQ A n c,QQ B m d])/\XW w.heap.size w w'
theorem K9_ (w:QV) (F:Nat->Prop):GrR w F ⟨[],[]⟩ (.agg #[QQ QK 0 0,QQ QK 0 0]):=⟨_,_,rfl,SlR.nil ..,SlR.nil ..⟩
theorem Ho_ {L:List e_} {w:QV} {e:Ending} {w':QV} (h:he_ L w e w'):Fv_ L w e w':=by
 rcases h with⟨f,rfl,hb⟩ | ⟨h1,h2,N,E,rfl,b,hb⟩
 ·refine⟨QK,0,0,QK,0,0,?_,?_,hb⟩
  ·unfold cOf;rw[iN_ f]
  ·unfold gOf;rw[iN_ f];exact K9_ _ _
 ·obtain⟨m,l,e,⟨A,c,k,_,_⟩,⟨B,d,j,_,_⟩⟩:=id b;subst k;subst j;injection e with e;have g:=congrArg (λa:Array XJ=>a[0]?) e;have i:=congrArg (λa:Array XJ=>a[1]?) e;simp at g i;subst g;subst i;refine⟨A,(bn_ (an_ (s_ (aa_ 0)) L)).nodes.length,c,B,(bn_ (an_ (s_ (aa_ 0)) L)).edges.length,d,?_,?_,hb⟩
  ·unfold cOf;rw[iP_ ⟨h1,h2⟩]
  ·unfold gOf;rw[iP_ ⟨h1,h2⟩];exact b
theorem K8_ {L:List e_} (a:∀t,t∈L->OkT t):j3_ (gOf L):=by
 unfold gOf;split
 ·rename_i h;exact (B0_ h.1 h.2 a).fit
 ·exact⟨by simp,by simp,by simp,by simp⟩
theorem Ie_ (L:List e_) (f:∀t,t∈L->OkT t) (F:Nat->Prop) (A:Option Addr) (n cp:Nat) (w:QV) (v:∀b,F b->b<w.heap.size) (R:SRd 18 TrR w F L A n) (V:n<=1000000000) (T:ad_ w) (U:ci_ w) :
    Calls QW 5 #[QQ A n cp] w (n_ true w):=by
 have ak:=q_ R.1.symm;have HL:=q_ (λ(W:QV) (hb:XW w.heap.size w W)=>R.under TrR.good hb v);have HF:=q_ v;have HN:=q_ V;have J:=q_ (λ(W:QV) (B:Option Addr) (cb:Nat) (G:Nat->Prop) (hG:∀b,G b->b<W.heap.size) (h:SRd 18 TrR W G L B n) (hb:XW w.heap.size w W)=>(nj_ L f G B n cb W hG h V (j_ T hb) (K_ U hb)).mono (λ_ _=>Ho_));have M:=q_ (λ(W:QV) (hb:XW w.heap.size w W)=>(Ax_ L f F A n cp W (λb h=>XZ (v b h) hb.size) (R.under TrR.good hb v) V (λh1 h2 t ht=>⟨(B0_ h1 h2 f).scal t ht,λi=>((f t (H1_ h2 f ht)).get i).fit⟩)).mono (λ_ _=>Ho_));have aa:=q_ (λt (ht:t∈L) i=>(show V_ (t.get i).list<=100000000 from by have h1:=((f t ht).get i).size;have h2:=dv_ (t.get i);omega));have a3:=q_ (p4_ (cp:=cp) R v V aa.o);have HW:=q_ (λ(W:QV) (hb:XW w.heap.size w W)=>(Bd_ W (j_ T hb) (K_ U hb)).mono (λe w' (h:n_ true W e w')=>(⟨h.1,hb.trans (h.2.mono hb.size)⟩:n_ true w e w')));have a6:=q_ (K8_ f);unfold Fv_ at J M;unfold k3_ at a3;obtain⟨k,Hk⟩:=a_ (cOf L);obtain⟨g0,Hg⟩:=a_ (gOf L);rw[Hk.o,Hg.o]at J M;rw[Hg.o]at a6;clear R v T U V;go_enter func5,ntmps5
 by_cases ag:40<n/\n<=65536
 ·have e1:(40:Int)<n:=by omega
  have e2:(n:Int)<=65536:=by omega
  go_wp2_with fail;refine (HW.o _ (XV _ _)).mono ?_;unfold n_;rintro e w9 ⟨rfl,q⟩;have I:=q_ q;clear q;go_wp2_with fail;go_ret;exact⟨rfl,I.o⟩
 ·have ab:¬(40:Int)<n\/((40:Int)<n/\¬(n:Int)<=65536):=by omega
  clear ag;go_upto_region 1 with fail;go_cut [15] (λap wx=>ap = XY false/\wx=w)
  case first=>
   rcases ab with e1 | ⟨e1,e2⟩
   ·go_wp2_with fail;go_meet;exact⟨rfl,rfl⟩
   ·go_wp2_with fail;go_meet;exact⟨rfl,rfl⟩
  case rest=>
  obtain⟨rfl,hw⟩:=hcut;rw[hw];clear hw ab;go_wp2_with fail;refine a3.o.mono ?_;rintro e w2 ⟨v2,rfl,X,hb⟩;have y:=q_ hb;obtain⟨Ac,cc,e2,_,Y⟩:=X.rd TrR.good;subst e2;rw[ak.o]at Y ⊢;have a9:=q_ (λ(W:QV) (hb:XW w2.heap.size w2 W)=>Y.under TrR.good hb (λb h=>h.2));clear X hb Y;go_wp2_with fail;refine (J.o w2 Ac cc _ (λb h=>h.2) (a9.o w2 (XV _ _)) y.o).mono ?_;rintro e g ⟨A1,n1,c1,B1,m1,d1,rfl,r,hb⟩;have ai:=q_ (λ(W:QV) (hb:XW g.heap.size g W)=>r.under hb (λb h=>h.2));have a0:=q_ (y.o.trans (hb.mono y.o.size));have z:=q_ hb;clear r hb;obtain⟨x,O⟩:=a_ g.heap.size;obtain⟨Z,a⟩:=a_ (g.alloc (XX #[QQ QK 0 0,QQ QK 0 0] 54));have l:=q_ (show XW g.heap.size g Z from by rw[<-a.o];exact (XV _ _).alloc (XK _) _);have m:=q_ (show Z.heap[x]?=QJ (XX #[QQ QK 0 0,QQ QK 0 0] 54 (0,0)) from by rw[<-a.o,<-O.o];exact XU g _);go_upto_region 5 with ((with_reducible refine w_ 4 ?_);rw[a.o,O.o];refine o_ rfl 54 _ _ rfl x (#[QQ QK 0 0,QQ QK 0 0]) (#[QQ A1 n1 c1,QQ B1 m1 d1]) 54 rfl rfl m.o rfl (P_ _ _) (cz_ _ _ _ _ _ _) ?_;intro w4 ae ac)
  have s:=q_ (show XW g.heap.size g w4 from h_ l.o ac (λb e=>by have e:b=x:=e;have h2:g.heap.size=x:=O.o;omega));have E:=q_ (a0.o.trans (s.o.mono a0.o.size));have a7:=q_ ae;clear ae ac a m l;go_wp2_with fail;refine (M.o w4 E.o).mono ?_;rintro e w5 ⟨A2,n2,c2,B2,m2,d2,rfl,r,hb⟩;have aj:=q_ (λ(W:QV) (hb:XW w5.heap.size w5 W)=>r.under hb (λb h=>h.2));have D:=q_ (s.o.trans (hb.mono s.o.size));have a1:=q_ (E.o.trans (hb.mono E.o.size));have a8:=q_ ((hb.block x (b_ a7.o)).trans a7.o);clear r hb;obtain⟨z6,P⟩:=a_ w5.heap.size;obtain⟨Z,a⟩:=a_ (w5.alloc (XX #[QQ QK 0 0,QQ QK 0 0] 54));have l:=q_ (show XW w5.heap.size w5 Z from by rw[<-a.o];exact (XV _ _).alloc (XK _) _);have m:=q_ (show Z.heap[z6]?=QJ (XX #[QQ QK 0 0,QQ QK 0 0] 54 (0,0)) from by rw[<-a.o,<-P.o];exact XU w5 _);go_upto_region 6 with ((with_reducible refine w_ 6 ?_);rw[a.o,P.o];refine o_ rfl 54 _ _ rfl z6 (#[QQ QK 0 0,QQ QK 0 0]) (#[QQ A2 n2 c2,QQ B2 m2 d2]) 54 rfl rfl m.o rfl (P_ _ _) (cz_ _ _ _ _ _ _) ?_;intro w6 af ad)
  have c:=q_ (show XW w5.heap.size w5 w6 from h_ l.o ad (λb e=>by have e:b=z6:=e;have h2:w5.heap.size=z6:=P.o;omega));have j:=q_ (D.o.trans (c.o.mono D.o.size));have a2:=q_ (a1.o.trans (c.o.mono a1.o.size));have am:=q_ (nq_ ((c.o.block x (b_ a8.o)).trans a8.o));have ao:=q_ (nq_ af);have a4:=q_ (us_ g0 a6.o _ _ _ _ w6 (λb h=>XZ h.2 j.o.size) (λb h=>XZ h.2 c.o.size) (ai.o w6 j.o) (aj.o w6 c.o));unfold n_ at a4;clear af ad a m l
  go_wp2_with (first
   | ((with_reducible refine d_ (some 33) ?_);refine C_ (by rfl) 54 _ rfl rfl (#[QQ A1 n1 c1,QQ B1 m1 d1]) _ am.o underlying54 rfl (P_ _ _) ?_)
   | ((with_reducible refine d_ (some 34) ?_);refine C_ (by rfl) 54 _ rfl rfl (#[QQ A2 n2 c2,QQ B2 m2 d2]) _ ao.o underlying54 rfl (P_ _ _) ?_))
  refine a4.o.mono ?_;rintro e w7 ⟨rfl,hb⟩;have u:=q_ (a2.o.trans (hb.mono a2.o.size));have C:=q_ (z.o.trans ((j.o.trans (hb.mono j.o.size)).mono z.o.size));clear hb;have S:=wy_ (ca:=cc) (cb:=cp) (a9.o w7 C.o) (HL.o w7 u.o) (λb h=>XZ h.2 C.o.size) (λb h=>XZ (HF.o b h) u.o.size) HN.o (λt ht i=>ZX (aa.o t ht i) (by decide));rw[hy_.2 rfl]at S;have a5:=q_ S;unfold n_ at a5;clear S;go_wp2_with fail;refine a5.o.mono ?_;rintro e w8 ⟨rfl,hb⟩;have ah:=q_ (u.o.trans (hb.mono u.o.size));clear hb;go_wp2_with fail;refine (HW.o w8 ah.o).mono ?_;unfold n_;rintro e w9 ⟨rfl,q⟩;have I:=q_ q;clear q;go_wp2_with fail;go_ret;exact⟨rfl,I.o⟩
end
section
open Go Go.ChangeShapes Go.WideShapes Go.ChangeAt Go.RowKit Go.Joins
theorem Bp_ (a:Addr) (i j:Nat):(a.add i).add j=a.add (i+j):=Go.Deep.add_add a i j
theorem Jw_ {H:Type} {enc:TypeId×XJ->H} {P:Program} {w:QV} {b:Nat} {a:Nat->Bool} {held:Bool} {t:TypeId} {e f g i j l:Field} {fuel:Nat} {cs:List XJ} {x:DataW H×List MemPlace} (ht:P.underlying t=QJ (.struct #[e,f,g,i,j,l])) (J:P.cellsOf t=6)
    (L:e.offset=0) (M:f.offset=1) (O:g.offset=2) (R:i.offset=3) (S:j.offset=4) (T:l.offset=5) (D:P.cellsOf e.type=1) (E:P.cellsOf f.type=1) (F:P.cellsOf g.type=1) (G:P.cellsOf i.type=1) (c4:P.cellsOf j.type=1) (I:P.cellsOf l.type=1)
    (h:DataW.trod enc P w b a held fuel t cs=QJ x) :
    ∃(m n o q r v5:XJ) (y0 y1 y2 y3 y4 y5:DataW H×List MemPlace) (k:Nat),cs=[m,n,o,q,r,v5]/\x.1 = .agg [y0.1,y1.1,y2.1,y3.1,y4.1,y5.1]/\DataW.trod enc P w b a held k e.type [m]=QJ y0/\DataW.trod enc P w b a held k f.type [n]=QJ y1/\DataW.trod enc P w b a held k g.type [o]=QJ y2/\DataW.trod enc P w b a held k i.type [q]=QJ y3/\DataW.trod enc P w b a held k j.type [r]=QJ y4/\DataW.trod enc P w b a held k l.type [v5]=QJ y5:=by
 obtain⟨xs,k,U,C,s,B,c⟩:=DataW.trod_struct ht h;rw[J]at s;match xs,B,cs,s with
 | [y0,y1,y2,y3,y4,y5],_,[m,n,o,q,r,v5],_=>
  have u:=c 0 e rfl;have v:=c 1 f rfl;have y:=c 2 g rfl;have z:=c 3 i rfl;have g4:=c 4 j rfl;have A:=c 5 l rfl;simp[L,M,O,R,S,T,D,E,F,G,c4,I]at u v y z g4 A;exact⟨m,n,o,q,r,v5,y0,y1,y2,y3,y4,y5,k,rfl,by rw[C];rfl,u,v,y,z,g4,A⟩
theorem t2_ {H:Type} {enc:TypeId×XJ->H} {W:QV} {N:Nat} {held:Bool} {n:Nat} {cs:List XJ} {d:DataW H} {p:List MemPlace}
    (S:∀{fuel:Nat} {v:XJ} {d:DataW H} {p:List MemPlace},Rows.uptoBulk d<=N->DataW.trod enc QW W 0 (λ_=>true) held fuel 37 [v]=QJ (d,p) ->
     ∃A n c l,v = QQ A n c/\n<=c/\LRd W (λg=>g<W.heap.size) l A n/\u3_ l/\V_ l<Rows.uptoBulk d)
    (U:Rows.uptoBulk d<=N+1) (h:DataW.trod enc QW W 0 (λ_=>true) held n 39 cs=QJ (d,p)) :
    ∃x,cs.toArray.size=6/\VRd W (λg=>g<W.heap.size) x (.agg cs.toArray)/\lq_ x/\S_ x<=Rows.uptoBulk d:=by
 obtain⟨X,Y,Z,v3,v4,v5,y0,y1,y2,y3,y4,f,k,rfl,i,J,L,M,O,g4,P⟩:=Jw_ YV (by kernel_rfl) rfl rfl rfl rfl rfl rfl (by kernel_rfl) (by kernel_rfl) (by kernel_rfl) (by kernel_rfl) (by kernel_rfl) (by kernel_rfl) h;obtain⟨t,e0,C,w0⟩:=DataW.trod_int (by kernel_rfl:Tryz.prog.underlying 3=QJ (.int .i64)) J;obtain⟨u,j,D⟩:=DataW.trod_bool (by kernel_rfl:Tryz.prog.underlying 4=some .bool) L;obtain⟨e,o,E,w2⟩:=DataW.trod_int (by kernel_rfl:Tryz.prog.underlying 2=QJ (.int .i64)) M;obtain⟨a,q,F,w3⟩:=DataW.trod_string (by kernel_rfl:Tryz.prog.underlying 9=some .string) O;obtain⟨b,r,G,w4⟩:=DataW.trod_string (by kernel_rfl:Tryz.prog.underlying 9=some .string) g4;injection e0 with e0 _;injection j with j _;injection o with o _;injection q with q _;injection r with r _;subst e0 j o q r C D E F G;obtain⟨f,V⟩:=f;simp only at i;subst i
 have B:6+a.size+b.size+Rows.uptoBulk f<=Rows.uptoBulk (DataW.agg [.lit (.int .i64 t),.lit (.bool u),.lit (.int .i64 e),.lit (.string a.data.toList),.lit (.string b.data.toList),f]):=by
  have z3:a.data.toList.length=a.size:=by rw[Array.length_toList];rfl
  have z4:b.data.toList.length=b.size:=by rw[Array.length_toList];rfl
  simp only[Rows.uptoBulk,Rows.uptoBulkAll];omega
 obtain⟨A,m,c,l,I,s,z,y,T⟩:=S (by omega) P;subst I;have R:m=l.length:=z.1;subst R;have h2:-9223372036854775808<=e/\e<=9223372036854775807:=by simpa [Lit.wf,IntKind.min,IntKind.max,IntKind.signed,IntKind.bits] using w2
 refine⟨.mk t u e a b l,rfl,VRd.of_list (v:=.mk t u e a b l) s z,⟨h2,y⟩,?_⟩;simp only[S_];omega
theorem Fi_ {H:Type} {enc:TypeId×XJ->H} {W:QV} {held:Bool} (N:Nat):∀{fuel:Nat} {v:XJ} {d:DataW H} {p:List MemPlace},Rows.uptoBulk d<=N->DataW.trod enc QW W 0 (λ_=>true) held fuel 37 [v]=QJ (d,p) ->
      ∃A n k l,v = QQ A n k/\n<=k/\LRd W (λg=>g<W.heap.size) l A n/\u3_ l/\V_ l<Rows.uptoBulk d:=by
 induction N with
 | zero=>intro fuel v d p F;have:=bulks.one_le d;omega
 | succ N T=>
  intro fuel v d p F h;rcases Go.Deep.open_slice underlying37 h with⟨e,y⟩ | ⟨a,b,k,m,n,D,Pl,e,_,O,a0,S,y,B⟩
  ·injection e with e _;subst e;exact⟨QK,0,0,[],rfl,XK _,LRd.nil 0 rfl,trivial,by simp only[V_];exact bulks.one_le d⟩
  ·injection e with e _;subst e;have a1:b<=m:=by rw[S];split<;>omega
   injection y with y _;subst y;have hb:=bulks.slice_elems ((List.range b).map D) ((List.range (m-b)).map λj=>D (b+j))
   have J:∀i,i<b->Rows.uptoBulk (D i)<=N:=λi hi=>by
    have:=bulks.part_le (List.mem_map.2 ⟨i,List.mem_range.2 hi,rfl⟩:D i∈(List.range b).map D);omega
   have s:∀i,i<b->∃q:g_×Array XJ,q.2.size=6/\(∀j,j<6->W.cell? (a.add (i*6+j))=q.2[j]?)/\VRd W (λg=>g<W.heap.size) q.1 (.agg q.2)/\lq_ q.1/\S_ q.1<=Rows.uptoBulk (D i):=λi hi=>by
    obtain⟨z,o,P⟩:=B i (by omega);rw[show Tryz.prog.cellsOf 39=6 by kernel_rfl]at o;obtain⟨_,G,c⟩:=World.cells?_some o;obtain⟨x,Y,Z,x3,x4⟩:=t2_ (λF h=>T F h) (Nat.le_succ_of_le (J i hi)) P;exact⟨(x,z.toArray),Y,λj R=>by rw[<-Bp_,c j R];simp,Z,x3,x4⟩
   have M:∃q:Nat->g_×Array XJ,∀i,i<b->(q i).2.size=6/\(∀j,j<6->W.cell? (a.add (i*6+j))=(q i).2[j]?)/\VRd W (λg=>g<W.heap.size) (q i).1 (.agg (q i).2)/\lq_ (q i).1/\S_ (q i).1<=Rows.uptoBulk (D i):=by
    classical
    exact⟨λi=>if hi:i<b then Classical.choose (s i hi) else (.mk 0 false 0 ⟨#[]⟩ ⟨#[]⟩ [],#[]),λi hi=>by simp only[dif_pos hi];exact Classical.choose_spec (s i hi)⟩
   obtain⟨q,I⟩:=M;refine⟨QJ a,b,k,(List.range b).map λi=>(q i).1,rfl,O,⟨by simp,λhn=>⟨a,rfl,?_,λi x f=>?_⟩⟩,?_,?_⟩
   ·obtain⟨z,o,_⟩:=B 0 (by omega);rw[show Tryz.prog.cellsOf 39=6 by kernel_rfl]at o;obtain⟨_,G,c⟩:=World.cells?_some o;have h0:=c 0 (by omega);rw[XQ (by omega)]at h0;have:=World.block_lt_of_cell? W _ h0;simpa [Addr.add] using this
   ·rw[List.getElem?_map]at f
    have C:i<b:=by
     rcases VZ i b with E | E
     ·exact E
     ·rw[ZK (by simpa using E)]at f;cases f
    rw[List.getElem?_range C]at f;injection f with f;subst f;obtain⟨U,V,X,_⟩:=I i C;exact⟨_,U,V,X⟩
   ·have:∀L:List Nat,(∀i,i∈L->i<b)->u3_ (L.map λi=>(q i).1):=λL=>by
      induction L with
      | nil=>intro _;trivial
      | cons x r u=>intro t;exact⟨(I x (t x (VJ ..))).2.2.2.1,u λi hi=>t i (List.mem_cons_of_mem _ hi)⟩
    exact this _ λi hi=>List.mem_range.1 hi
   ·have:∀L:List Nat,(∀i,i∈L->i<b)->V_ (L.map λi=>(q i).1)<=Rows.uptoBulkAll (L.map D):=λL=>by
      induction L with
      | nil=>intro _;simp[V_]
      | cons x r u=>
       intro t;have h1:=(I x (t x (VJ ..))).2.2.2.2;have h2:=u λi hi=>t i (List.mem_cons_of_mem _ hi);simp only[List.map_cons,V_,Rows.uptoBulkAll];omega
    have:=this (List.range b) λi hi=>List.mem_range.1 hi;omega
theorem Mc_ {H:Type} {enc:TypeId×XJ->H} {P:Program} {w:QV} {b:Nat} {a:Nat->Bool} {held:Bool} {t:TypeId} {n o q:Field} {fuel:Nat} {cs:List XJ} {x:DataW H×List MemPlace} (ht:P.underlying t=QJ (.struct #[n,o,q])) (S:P.cellsOf t=18)
    (T:n.offset=0) (U:o.offset=6) (V:q.offset=12) (M:P.cellsOf n.type=6) (O:P.cellsOf o.type=6) (R:P.cellsOf q.type=6)
    (h:DataW.trod enc P w b a held fuel t cs=QJ x) :
    ∃(r s u v y v5 z A B C c e f g i j l m:XJ) (y0 y1 y2:DataW H×List MemPlace) (k:Nat),cs=[r,s,u,v,y,v5,z,A,B,C,c,e,f,g,i,j,l,m]/\x.1 = .agg [y0.1,y1.1,y2.1]/\DataW.trod enc P w b a held k n.type [r,s,u,v,y,v5]=QJ y0/\DataW.trod enc P w b a held k o.type [z,A,B,C,c,e]=QJ y1/\DataW.trod enc P w b a held k q.type [f,g,i,j,l,m]=QJ y2:=by
 obtain⟨xs,k,X,L,D,J,E⟩:=DataW.trod_struct ht h;rw[S]at D;match xs,J,cs,D with
 | [y0,y1,y2],_,[r,s,u,v,y,v5,z,A,B,C,c,e,f,g,i,j,l,m],_=>
  have F:=E 0 n rfl;have G:=E 1 o rfl;have I:=E 2 q rfl;simp[T,U,V,M,O,R]at F G I;exact⟨r,s,u,v,y,v5,z,A,B,C,c,e,f,g,i,j,l,m,y0,y1,y2,k,rfl,by rw[L];rfl,F,G,I⟩
def yy_ {a : Type} (f:a -> Nat) (l:List a):Nat:=(l.map f).sum
theorem Jm_ {f : Type} [Inhabited f] {H:Type} {enc:TypeId×XJ->H} {W:QV} {held:Bool} {R:bu_ f} {sz N:Nat} {T E:TypeId} {Q:f -> Prop} {t:f -> Nat} (Z:Tryz.prog.underlying T=QJ (.slice E)) (O:Tryz.prog.cellsOf E=sz) (V:0<sz)
    (B:∀{fuel:Nat} {cs:List XJ} {d:DataW H} {p:List MemPlace},Rows.uptoBulk d<=N->DataW.trod enc QW W 0 (λ_=>true) held fuel E cs=QJ (d,p)->∃x:f,cs.toArray.size=sz/\R W (λg=>g<W.heap.size) x cs.toArray/\Q x/\t x<=Rows.uptoBulk d)
    {fuel:Nat} {v:XJ} {d:DataW H} {p:List MemPlace} (hN:Rows.uptoBulk d<=N) (h:DataW.trod enc QW W 0 (λ_=>true) held fuel T [v]=QJ (d,p)) :
    ∃l:List f,SlR sz R W (λg=>g<W.heap.size) l v/\(∀x,x∈l->Q x)/\yy_ t l<Rows.uptoBulk d/\l.length<Rows.uptoBulk d:=by
 rcases Go.Deep.open_slice Z h with⟨k,u⟩ | ⟨a,b,I,m,n,D,Pl,k,_,U,a1,hm,u,z⟩
 ·injection k with k _;subst k;have h1:=bulks.one_le d;exact⟨[],SlR.nil ..,λx c=>(List.not_mem_nil c).elim,by show 0<_;omega,by show 0<_;omega⟩
 ·injection k with k _;subst k;have a2:b<=m:=by rw[hm];split<;>omega
  injection u with u _;subst u;have hb:=bulks.slice_elems ((List.range b).map D) ((List.range (m-b)).map λj=>D (b+j));have a0:=bulks.slice_le ((List.range b).map D) ((List.range (m-b)).map λj=>D (b+j))
  have M:∀i,i<b->Rows.uptoBulk (D i)<=N:=λi hi=>by
   have:=bulks.part_le (List.mem_map.2 ⟨i,List.mem_range.2 hi,rfl⟩:D i∈(List.range b).map D);omega
  have J:∀i,i<b->∃q:f × Array XJ,q.2.size=sz/\(∀j,j<sz->W.cell? (a.add (i*sz+j))=q.2[j]?)/\R W (λg=>g<W.heap.size) q.1 q.2/\Q q.1/\t q.1<=Rows.uptoBulk (D i):=λi hi=>by
   obtain⟨y,s,Y⟩:=z i (by omega);rw[O]at s;obtain⟨_,F,e⟩:=World.cells?_some s;obtain⟨x,x1,x2,x3,x4⟩:=B (M i hi) Y;exact⟨(x,y.toArray),x1,λj hj=>by rw[<-Bp_,e j hj];simp,x2,x3,x4⟩
  have S:∃q:Nat -> f × Array XJ,∀i,i<b->(q i).2.size=sz/\(∀j,j<sz->W.cell? (a.add (i*sz+j))=(q i).2[j]?)/\R W (λg=>g<W.heap.size) (q i).1 (q i).2/\Q (q i).1/\t (q i).1<=Rows.uptoBulk (D i):=by
   classical
   exact⟨λi=>if hi:i<b then Classical.choose (J i hi) else (default,#[]),λi hi=>by simp only[dif_pos hi];exact Classical.choose_spec (J i hi)⟩
  obtain⟨q,G⟩:=S;have o:((List.range b).map λi=>(q i).1).length=b:=by simp
  refine⟨(List.range b).map λi=>(q i).1,⟨QJ a,I,by rw[o],by rw[o];exact U,rfl,λhn=>⟨a,rfl,?_,λi x c=>?_⟩⟩,?_,?_,?_⟩
  ·obtain⟨y,s,_⟩:=z 0 (by rw[o]at hn;omega);rw[O]at s;obtain⟨_,F,e⟩:=World.cells?_some s;have h0:=e 0 V;rw[XQ (by omega)]at h0;have:=World.block_lt_of_cell? W _ h0;simpa [Addr.add] using this
  ·rw[List.getElem?_map]at c
   have A:i<b:=by
    rcases VZ i b with C | C
    ·exact C
    ·rw[ZK (by simpa using C)]at c;cases c
   rw[List.getElem?_range A]at c;injection c with c;subst c;obtain⟨q1,q2,q3,_⟩:=G i A;exact⟨_,q1,q2,q3⟩
  ·intro x c;obtain⟨i,hi,rfl⟩:=List.mem_map.1 c;exact (G i (List.mem_range.1 hi)).2.2.2.1
  ·have:∀L:List Nat,(∀i,i∈L->i<b)->yy_ t (L.map λi=>(q i).1)<=Rows.uptoBulkAll (L.map D):=λL=>by
     induction L with
     | nil=>intro _;simp[yy_]
     | cons x r X=>
      intro P;have h1:=(G x (P x (VJ ..))).2.2.2.2;have h2:=X λi hi=>P i (List.mem_cons_of_mem _ hi);simp only[yy_,List.map_cons,List.sum_cons,Rows.uptoBulkAll]at h2 ⊢;omega
   have:=this (List.range b) λi hi=>List.mem_range.1 hi;omega
  ·rw[o];have hh:((List.range b).map D).length=b:=by simp
   omega
instance:Inhabited g_:=⟨.mk 0 false 0 ⟨#[]⟩ ⟨#[]⟩ []⟩
instance:Inhabited e_:=⟨⟨default,default,default⟩⟩
section
variable {H:Type} {enc:TypeId×XJ->H} {W:QV} {held:Bool} {fuel:Nat} {d:DataW H} {p:List MemPlace}
theorem h5_ {cs:List XJ} (c:Rows.uptoBulk d<=1048576) (h:DataW.trod enc QW W 0 (λ_=>true) held fuel 39 cs=QJ (d,p)) :
    ∃x:g_,OkV x/\∃s,cs.toArray=c_ x s/\VRd W (λg=>g<W.heap.size) x (.agg (c_ x s)):=by
 obtain⟨x,j,e,f,m⟩:=t2_ (N:=1048576) (λc h=>Fi_ 1048576 c h) (by omega) h;obtain⟨A,i,a,_,_⟩:=e.inv;injection a with a
 have hi:-9223372036854775808<=x.num/\x.num<=9223372036854775807:=by
  cases x with
  | mk k b n t y l=>
   simp only[lq_]at f;exact f.1
 exact⟨x,⟨by omega,hi.1,hi.2⟩,_,a,by rw[<-a];exact e⟩
theorem O2_ {cs:List XJ} (M:Rows.uptoBulk d<=1048576) (h:DataW.trod enc QW W 0 (λ_=>true) held fuel 41 cs=QJ (d,p)) :
    ∃x:e_,cs.toArray.size=18/\TrR W (λg=>g<W.heap.size) x cs.toArray/\OkT x/\(λ_:e_=>0) x<=Rows.uptoBulk d:=by
 obtain⟨S,T,U,V,X,v5,Y,Z,v8,v9,C,D,E,F,G,I,J,L,a,b,c,k,rfl,e,o,q,r⟩:=Mc_ underlying41 (by kernel_rfl) rfl rfl rfl (by kernel_rfl) (by kernel_rfl) (by kernel_rfl) h;obtain⟨a,O⟩:=a;obtain⟨b,P⟩:=b;obtain⟨c,R⟩:=c;simp only at e;subst e;have hb:Rows.uptoBulk a+Rows.uptoBulk b+Rows.uptoBulk c<=Rows.uptoBulk (DataW.agg [a,b,c]):=by simp only[Rows.uptoBulk,Rows.uptoBulkAll];omega
 obtain⟨x,s,f,e0,v⟩:=h5_ (by omega) o;obtain⟨y,t,j,m,A⟩:=h5_ (by omega) q;obtain⟨z,u,l,n,B⟩:=h5_ (by omega) r;refine⟨⟨x,y,z⟩,rfl,⟨λi=>if i=0 then f else if i=1 then j else l,?_,λi hi=>?_⟩,⟨s,t,u⟩,Nat.zero_le _⟩
 ·show _=c_ x f++c_ y j++c_ z l;rw[<-e0,<-m,<-n];rfl
 ·rcases (show i=0\/i=1\/i=2 by omega) with rfl | rfl | rfl
  ·exact v
  ·exact A
  ·exact B
theorem Ba_ {v:XJ} (a:Rows.uptoBulk d<=1048576) (h:DataW.trod enc QW W 0 (λ_=>true) held fuel 22 [v]=QJ (d,p)) :
    ∃l:List e_,SlR 18 TrR W (λg=>g<W.heap.size) l v/\(∀x,x∈l->OkT x)/\yy_ (λ_=>0) l<Rows.uptoBulk d/\l.length<Rows.uptoBulk d:=
 Jm_ (Q:=OkT) underlying22 (by kernel_rfl) (by decide) (λa h=>O2_ a h) a h
end
theorem vs_ {H:Type} {enc:TypeId×XJ->H} {W:QV} {f:Nat} {v:XJ} {d:DataW H} {p:List MemPlace} (i:Rows.uptoBulk d<=1048576) (j:Value.okWide QW W .any f 22 v)
    (h:DataW.Trod enc QW W 0 (λ_=>true) true 22 v d p) :
    ∃(A:Option Addr) (n c:Nat) (L:List e_),v = QQ A n c/\(∀t,t∈L->OkT t)/\SRd 18 TrR W (λb=>b<W.heap.size) L A n/\n<=100000000:=by
 obtain⟨a,n,cp,rfl⟩:=okWide_slice underlying22 j;obtain⟨fuel,g⟩:=h;obtain⟨L,⟨A,c,e,_,k⟩,l,_,m⟩:=Ba_ i g;rw[e];exact⟨A,L.length,c,L,rfl,l,k,by omega⟩
end
end Go.Proofs.YtefhfadjajcmkaaGreatDoor
