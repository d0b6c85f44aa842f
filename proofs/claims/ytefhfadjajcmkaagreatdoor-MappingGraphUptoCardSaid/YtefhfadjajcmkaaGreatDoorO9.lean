/- The program's Triples: printed by gen_MU.py. -/
import Derived.Test.YtefhfadjajcmkaaGreatDoorO8
set_option linter.unusedVariables false
set_option linter.unusedSimpArgs false
set_option maxRecDepth 100000
set_option maxHeartbeats 64000000
namespace Go.Proofs.YtefhfadjajcmkaaGreatDoor
open _root_.Go.Proofs.Tryz
open Go.Act renaming put→VK
open Bool renaming and_eq_true→YW
open Go.IntWalk renaming i64_in→YU
open Go.Ending renaming returned→YQ
open Go.RowKit renaming Below→XW
open Go.RowKit.Below renaming refl→XV
open Nat renaming lt_of_lt_of_le→XZ,le_refl→XK,le_trans→ZX,zero_add→VQ,lt_or_ge→VZ
open Go.Obj renaming cells→XX
open List renaming getElem?_eq_getElem→XQ,mem_of_getElem?→YZ,take_of_length_le→YJ,getElem?_eq_none→ZK,length_take→UJ,append_assoc→UW,mem_cons_self→VJ
open _root_.Go.Proofs.Tryz renaming prog→QW,underlying39→YV
open Go renaming World→QV,Value→XJ,heap_alloc_new→XU,bodyPost_ret→ZV,wp_region_held_drew→UZ,cell_of_row→UU,wpAnyH_done→VX
open Go.IntKind renaming i64→QU
open Option renaming some→QJ,none→QK
open Go.Lib renaming cell_of_heap→QX,frozen_of_heap→YY
open Go.Value renaming slice→QQ,string→QZ,int→QY,bool→XY,pointer→YK,tuple→ZJ
open Go.Lib (cell_of_heap)
section
open Go Go.RowKit Go.Maps
def i6_:g_:=.mk 0 false 0 ⟨#[]⟩ ⟨#[]⟩ []
def n4_ (o:Option J_) (k:ByteArray):Bool:=match o with | some p=>decide (p.key=k) | none=>false
def k1_ (n:i_):Bool:=decide (n.labels.length=1)&&(decide (1<=n.props.length)&&(decide (n.props.length<=2)&&(n4_ n.props[0]? sV&&(decide (n.props.length≠2) || n4_ n.props[1]? sX))))
def ov_ (s:ByteArray) (p:g_) (r:List J_):g_:=
 if s=Jh_ then .mk 8 false 0 p.text ⟨#[]⟩ [] else if s=q9_ then .mk 9 false 0 p.text ⟨#[]⟩ [] else if s=Ji_ then .mk 10 false 0 p.text (match r with | [q]=>q.v.text | _=>⟨#[]⟩) [] else if s=Jj_ then p else i6_
def l6_ (n:i_):g_:=match n.labels,n.props with | [s],p::r=>ov_ s p.v r | _,_=>i6_
noncomputable def ce_ (n:i_):g_×Bool:=if k1_ n=true then (if (l6_ n).kind=0\/(l6_ n).kind=5\/I_ (l6_ n) 0=false then (i6_,false) else (l6_ n,f1_ (U_ n.id (l6_ n)) n)) else (i6_,false)
theorem sz_ {v:g_} {d:Nat} (h:I_ v d=true) (a:v.kind≠5):v.list=[]:=by
 cases v with
 | mk k b n t x l=>
  change k≠5 at a;unfold I_ at h;show l=[];rw[iN_ a]at h;repeat' split at h
  all_goals first
   | exact (eo_ h a).2.2.2.2
   | (rw[YW]at h;exact (eo_ h.2 a).2.2.2.2)
   | (rw[YW,YW]at h;exact (eo_ h.2.2 a).2.2.2.2)
   | cases h
theorem ha_ {e:Int} {L:List ByteArray} {P:List J_} {b a:Nat} (c:L.length=b) (d:P.length=a):k1_ ⟨e,L,P⟩=(decide (b=1)&&(decide (1<=a)&&(decide (a<=2)&&(n4_ P[0]? sV&&(decide (a≠2) || n4_ P[1]? sX))))):=by subst c d;rfl
theorem Al_:(#[QY QU 0,XY false,QY QU 0,QZ ⟨#[]⟩,QZ ⟨#[]⟩,QQ QK 0 0]:Array XJ).all (·.oneCell')=true:=by kernel_rfl
theorem ls_:(Tryz.prog.info? 39).map (·.size)=QJ (#[QY QU 0,XY false,QY QU 0,QZ ⟨#[]⟩,QZ ⟨#[]⟩,QQ QK 0 0]:Array XJ).size:=by kernel_rfl
theorem Ak_ (k:Int) (t:ByteArray):(#[QY QU k,XY false,QY QU 0,QZ t,QZ ⟨#[]⟩,QQ QK 0 0]:Array XJ).all (·.oneCell')=true:=by kernel_rfl
theorem u7_ (k:Int) (t:ByteArray):(Tryz.prog.info? 39).map (·.size)=QJ (#[QY QU k,XY false,QY QU 0,QZ t,QZ ⟨#[]⟩,QQ QK 0 0]:Array XJ).size:=by kernel_rfl
theorem x1_ {s:ByteArray} {p:g_} {r:List J_} (a:S_ p<=2000000) (c:∀q,q∈r->S_ q.v<=2000000):S_ (ov_ s p r)<=5000000:=by
 have ht:∀v:g_,S_ v<=2000000->v.text.size / 64<=2000000:=λv h=>by
  cases v with
  | mk k b n t x l=>
   simp only[S_]at h;show t.size / 64<=2000000;omega
 have h1:∀(k:Int) (t x:ByteArray),t.size / 64<=2000000->x.size / 64<=2000000->S_ (.mk k false 0 t x [])<=5000000:=λk t x h1 h2=>by
  simp only[S_,V_];omega
 have h0:(⟨#[]⟩:ByteArray).size / 64<=2000000:=by decide
 unfold ov_;split
 ·exact h1 _ _ _ (ht _ a) h0
 ·split
  ·exact h1 _ _ _ (ht _ a) h0
  ·split
   ·refine h1 _ _ _ (ht _ a) ?_;split
    ·exact ht _ (c _ (by simp))
    ·exact h0
   ·split
    ·omega
    ·decide
theorem nl_ (a:Int) (v:g_):(U_ a v).labels.length<=1000000000/\(U_ a v).props.length<=1000000000:=by
 unfold U_
 (repeat' split)<;>exact⟨by simp,by simp⟩
theorem qu_ (b:Int) {v:g_} (h:v.list=[]):∀p,p∈(U_ b v).props->p.v.list=[]:=by
 unfold U_
 (repeat' split)<;>intro p a<;>simp at a
 ·rw[a];rfl
 ·rw[a];rfl
 ·rcases a with rfl | rfl<;>rfl
 ·rw[a];exact h
theorem o2_ (k:Int) (s:ByteArray) (w:QV):(Instr.build 39 #[(0,QY QU k),(3,QZ s)]).run QW w = .ok (.agg #[QY QU k,XY false,QY QU 0,QZ s,QZ ⟨#[]⟩,QQ QK 0 0]) w:=by kernel_rfl
theorem r8_ {w:QV} {g j:Nat} {c:Array XJ} {T:TypeId} (a:w.heap[g]?=QJ (XX c T (0,0))) (b:j<c.size) (s:ByteArray):(Instr.storeAt 9 (YK (QJ ⟨g,j,QK⟩)) (QZ s)).run QW w = .ok () (w.setCell ⟨g,j,QK⟩ (QZ s)):=by have h1:=QX a j;have h2:=YY a j;have d:w.cell? ⟨g,j,QK⟩=QJ c[j]:=h1.trans (Array.getElem?_eq_getElem b);go_simp
def ud_ (n:i_) (w:QV) (e:Ending) (w':QV):Prop:=∃A a,e = YQ (ZJ #[.agg (c_ (ce_ n).1 (QQ A 0 a)),XY (ce_ n).2])/\XW w.heap.size w w'
theorem E9_ (c:Int) (L:List ByteArray) (P:List J_) (F:Nat->Prop) (u:Array XJ) (w:QV) (hF:∀b,F b->b<w.heap.size) (hu:NoR w F ⟨c,L,P⟩ u) (hg:ad_ w) (hn:rm_ ⟨c,L,P⟩) :
    Calls QW 78 #[.agg u] w (ud_ ⟨c,L,P⟩ w):=by
 have HU:=q_ hu;have HF:=q_ hF;have HG:=q_ hg;have bc:=q_ hn;obtain⟨_,_,e0,⟨A1,c1,e1,_,bl⟩,⟨A2,V,e2,_,bm⟩⟩:=hu;subst e1 e2 e0;change SRd 1 TxR w F L A1 L.length at bl;change SRd 7 PaR w F P A2 P.length at bm;obtain⟨n1,D⟩:=a_ L.length;obtain⟨n,f⟩:=a_ P.length;have HL:=q_ (show ∀W:QV,XW w.heap.size w W->SRd 1 TxR W F L A1 n1 from λW hb=>by rw[<-D.o];exact bl.under TxR.good hb hF);have HP:=q_ (show ∀W:QV,XW w.heap.size w W->SRd 7 PaR W F P A2 n from λW hb=>by rw[<-f.o];exact bm.under PaR.good hb hF);change Calls QW 78 #[.agg #[QY QU c,QQ A1 L.length c1,QQ A2 P.length V]] w (ud_ ⟨c,L,P⟩ w);rw[D.o,f.o];clear bl bm hF hg hn;obtain⟨z,Hz⟩:=a_ w.heap.size;obtain⟨w2,af⟩:=a_ ((w.alloc (XX #[QY QU c,QQ A1 n1 c1,QQ A2 n V] 72)).alloc (XX #[QY QU 0,XY false,QY QU 0,QZ ⟨#[]⟩,QZ ⟨#[]⟩,QQ QK 0 0] 39));have y:=q_ (show XW w.heap.size w w2 from by rw[<-af.o];exact F_ w _ _);have ag:=q_ (show w2.heap[z]?=QJ (XX #[QY QU c,QQ A1 n1 c1,QQ A2 n V] 72 (0,0)) from by rw[<-af.o,<-Hz.o];exact heap_alloc2_old w _ _);have au:=q_ (show w2.heap[z+1]?=QJ (XX #[QY QU 0,XY false,QY QU 0,QZ ⟨#[]⟩,QZ ⟨#[]⟩,QQ QK 0 0] 39 (0,0)) from by rw[<-af.o,<-Hz.o];exact heap_alloc2_new w _ _);obtain⟨sh,E⟩:=a_ (k1_ ⟨c,L,P⟩);have x1:w2.cell? ⟨z,1,QK⟩=QJ (QQ A1 n1 c1):=QX ag.o 1;have x2:w2.cell? ⟨z,2,QK⟩=QJ (QQ A2 n V):=QX ag.o 2;go_enter func78,ntmps78
 go_upto_region 1 with fail;rw[af.o,Hz.o];clear af;go_cut [43] (λdp R=>dp = XY (!sh)/\R=w2)
 case first=>
  by_cases h1:n1=1
  ·subst h1;by_cases h2:n<1
   ·have a1:(n:Int)<1:=by omega
    have N:=q_ (show sh=false from by rw[<-E.o];unfold k1_;simp[D.o,f.o];omega);go_wp2_with fail;go_meet;exact⟨by rw[N.o];rfl,rfl⟩
   ·have a1:¬(n:Int)<1:=by omega
    by_cases h3:2<n
    ·have a2:(2:Int)<n:=by omega
     have N:=q_ (show sh=false from by rw[<-E.o];unfold k1_;simp[D.o,f.o];omega);go_wp2_with fail;go_meet;exact⟨by rw[N.o];rfl,rfl⟩
    ·have a2:¬(2:Int)<n:=by omega
     obtain⟨p,hp⟩:∃p,P[0]?=QJ p:=⟨_,XQ (by rw[f.o];omega)⟩;obtain⟨ad,cp,rfl,dh,_,b2,bq⟩:=(HP.o w2 y.o).at_ hp;obtain⟨Ap,qp,de⟩:=i1_ bq;have k0:w2.cell? (ad.add 0)=QJ (QZ p.key):=by have:=b2 0 (by omega);rw[de]at this;exact this
     rw[show ad.add 0=ad from by first | exact Addr.add_zero ad | (cases ad;rfl)]at k0;obtain⟨kp,ah⟩:=a_ p.key;rw[ah.o]at k0;by_cases hk:kp=sV
     ·subst hk;unfold sV at k0;by_cases h4:n=2
      ·subst h4;obtain⟨q,hq⟩:∃q,P[1]?=QJ q:=⟨_,XQ (by rw[f.o];omega)⟩;obtain⟨dd,cq,e5,bn,_,b3,dl⟩:=(HP.o w2 y.o).at_ hq;injection e5 with e5;subst e5;obtain⟨Aq,qq,b0⟩:=i1_ dl;have k1:w2.cell? (ad.add 7)=QJ (QZ q.key):=by have:=b3 0 (by omega);rw[b0]at this;exact this
       obtain⟨kq,bj⟩:=a_ q.key;rw[bj.o]at k1;have k2:w2.cell? ⟨ad.block,ad.off+7,none⟩=some (QZ kq):=k1;by_cases bo:kq=sX
       ·subst bo;unfold sX at k2;have N:=q_ (show sh=true from by rw[<-E.o,ha_ D.o f.o,hp,hq];unfold n4_;simp[ah.o,bj.o]);go_wp2_with fail;go_meet;exact⟨by rw[N.o];rfl,rfl⟩
       ·have t3:(kq.toList==[120])=false:=by have h:=br_ bo;unfold sX at h;simpa using h
        have N:=q_ (show sh=false from by rw[<-E.o,ha_ D.o f.o,hp,hq];unfold n4_;simp[ah.o,bj.o,bo]);go_wp2_with fail;go_meet;exact⟨by rw[N.o];rfl,rfl⟩
      ·have a4:¬((n:Int)=2):=by omega
       have N:=q_ (show sh=true from by rw[<-E.o,ha_ D.o f.o,hp];unfold n4_;simp[ah.o,h4];omega);go_wp2_with fail;go_meet;exact⟨by rw[N.o];rfl,rfl⟩
     ·have t2:(kp.toList==[118])=false:=by have h:=br_ hk;unfold sV at h;simpa using h
      have N:=q_ (show sh=false from by rw[<-E.o,ha_ D.o f.o,hp];unfold n4_;simp[ah.o,hk]);go_wp2_with fail;go_meet;exact⟨by rw[N.o];rfl,rfl⟩
  ·have t1:((n1:Int)==1)=false:=by simp;omega
   have N:=q_ (show sh=false from by rw[<-E.o];unfold k1_;simp[D.o,h1]);go_wp2_with fail;go_meet;exact⟨by rw[N.o];rfl,rfl⟩
 case rest=>
  obtain⟨a9,ew⟩:=hcut;rw[ew];clear ew x1 x2
  cases sh with
  | false=>
   have a9:=a9.trans (show Value.bool (!false) = XY true from rfl);subst a9;go_wp2_with ((with_reducible refine w_ 2 ?_);refine o_ rfl 39 _ _ rfl (z+1) (#[QY QU 0,XY false,QY QU 0,QZ ⟨#[]⟩,QZ ⟨#[]⟩,QQ QK 0 0]) (#[QY QU 0,XY false,QY QU 0,QZ ⟨#[]⟩,QZ ⟨#[]⟩,QQ QK 0 0]) 39 rfl rfl au.o rfl ls_ Al_ ?_;intro w3 bw bs)
   have HT:=q_ (show ce_ ⟨c,L,P⟩=(i6_,false) from by unfold ce_;rw[E.o];rfl);refine ZV (v:=ZJ #[.agg #[QY QU 0,XY false,QY QU 0,QZ ⟨#[]⟩,QZ ⟨#[]⟩,QQ QK 0 0],XY false]) (cn_ results78 (g:=z+1) rfl bw _ YV rfl ls_ rfl) rfl ⟨QK,0,by rw[HT.o];rfl,h_ y.o bs (λb e=>by have e:b=z+1:=e;have h2:w.heap.size=z:=Hz.o;omega)⟩
  | true=>
   have a9:=a9.trans (show Value.bool (!true) = XY false from rfl);subst a9;have br:=E.o;rw[ha_ D.o f.o]at br;simp only[YW,decide_eq_true_eq]at br;obtain⟨cm,df,dg,a6,dj⟩:=br;obtain⟨s,hs⟩:∃s,L=[s]:=List.length_eq_one_iff.1 (D.o.trans cm)
   obtain⟨p,r,bq⟩:∃p r,P=p::r:=by
    cases P with
    | nil=>have:=f.o;simp at this;omega
    | cons p r=>exact⟨p,r,rfl⟩
   have d4:=q_ (And.intro df dg);subst cm hs bq;obtain⟨ad,cp,rfl,dh,_,b2,dk⟩:=(HP.o w2 y.o).at_ (i:=0) (x:=p) rfl;obtain⟨sl,rfl,bu⟩:=dk;obtain⟨vp,M⟩:=L_ p.v sl;have az:=q_ (a2_.trans (congrArg QJ M.size.symm));have ci:=q_ (show vp.all (·.oneCell')=true from by obtain⟨A,G,e,_⟩:=bu.inv;rw[M.o]at e;injection e with e;rw[e];kernel_rfl);have ch:=q_ (λj (hj:j<vp.size)=>(show w2.cell? ((⟨ad.block,ad.off+1,QK⟩:Addr).add j)=vp[j]? from by have h:=b2 (1+j) (by rw[M.size]at hj;omega);rw[ir_ p sl j (by rwa [M.size]at hj),M.o]at h;rw[<-h,Nat.zero_mul,VQ];exact congrArg w2.cell? (by rw[show (⟨ad.block,ad.off+1,QK⟩:Addr)=ad.add 1 from rfl,add_of_add])));obtain⟨O,ls,rfl,di,_,ck,b6⟩:=(HL.o w2 y.o).at_ (i:=0) (x:=s) rfl;have b6:ls=#[QZ s]:=b6;have b5:=ck 0 (by omega);rw[b6]at b5
   have LL:=q_ (λ(W:QV) (hb:XW w2.heap.size w2 W)=>(show W.cell? O=QJ (QZ s) from by
    have e:O.add 0=O:=by first | exact Addr.add_zero O | (cases O;rfl)
    rw[Nat.zero_mul,VQ,e]at b5;rw[hb.cell (p:=O) (XZ (HF.o _ di) y.o.size)];exact b5))
   have x2:w2.cell? ⟨z,2,QK⟩=QJ (QQ (QJ ad) n V):=QX ag.o 2;have a1:(0:Int)<n:=by omega
   clear b2 ck b6 b5 a6 dj;obtain⟨Z,a8⟩:=a_ w2.heap.size;obtain⟨wa,aq⟩:=a_ (w2.alloc (XX #[QY QU 0,XY false,QY QU 0,QZ ⟨#[]⟩,QZ ⟨#[]⟩,QQ QK 0 0] 39));have cv:=q_ (show XW w2.heap.size w2 wa from by rw[<-aq.o];exact (XV _ _).alloc (XK _) _);have c5:=q_ (show wa.heap[Z]?=QJ (XX #[QY QU 0,XY false,QY QU 0,QZ ⟨#[]⟩,QZ ⟨#[]⟩,QQ QK 0 0] 39 (0,0)) from by rw[<-aq.o,<-a8.o];exact XU w2 _)
   go_upto_region 4 with (first
    | ((with_reducible refine d_ (some 49) ?_);refine C_ (by rfl) 39 _ rfl rfl vp _ ch.o YV rfl az.o ?_)
    | ((with_reducible refine w_ 4 ?_);rw[aq.o,a8.o];refine o_ rfl 39 _ _ rfl Z (#[QY QU 0,XY false,QY QU 0,QZ ⟨#[]⟩,QZ ⟨#[]⟩,QQ QK 0 0]) vp 39 rfl rfl c5.o M.size az.o ci.o ?_;intro wb cr cn))
   have bd:=q_ cr;have bx:=q_ (show XW w2.heap.size w2 wb from h_ cv.o cn (λb e=>by have e:b=Z:=e;have h2:w2.heap.size=Z:=a8.o;omega));clear cr cn aq c5 ch x2;obtain⟨z5,av⟩:=a_ wb.heap.size;obtain⟨cu,ar⟩:=a_ (wb.alloc (XX #[QY QU 0,XY false,QY QU 0,QZ ⟨#[]⟩,QZ ⟨#[]⟩,QQ QK 0 0] 39));have cw:=q_ (show XW wb.heap.size wb cu from by rw[<-ar.o];exact (XV _ _).alloc (XK _) _);have c6:=q_ (show cu.heap[z5]?=QJ (XX #[QY QU 0,XY false,QY QU 0,QZ ⟨#[]⟩,QZ ⟨#[]⟩,QQ QK 0 0] 39 (0,0)) from by rw[<-ar.o,<-av.o];exact XU wb _);go_upto_region 5 with ((with_reducible refine w_ 5 ?_);rw[ar.o,av.o];refine o_ rfl 39 _ _ rfl z5 (#[QY QU 0,XY false,QY QU 0,QZ ⟨#[]⟩,QZ ⟨#[]⟩,QQ QK 0 0]) (#[QY QU 0,XY false,QY QU 0,QZ ⟨#[]⟩,QZ ⟨#[]⟩,QQ QK 0 0]) 39 rfl rfl c6.o rfl ls_ Al_ ?_;intro wd cs co)
   have ac:=q_ cs;have bz:=q_ (show XW wb.heap.size wb wd from h_ cw.o co (λb e=>by have e:b=z5:=e;have h2:wb.heap.size=z5:=av.o;omega));have c4:=q_ ((bz.o.block Z (b_ bd.o)).trans bd.o);have B:=q_ (show XW w2.heap.size w2 wd from bx.o.trans (bz.o.mono bx.o.size));have ae:=q_ ((B.o.block z (b_ ag.o)).trans ag.o);have c7:=q_ ((B.o.block (z+1) (b_ au.o)).trans au.o);have cz:=q_ (show XW w.heap.size w wd from y.o.trans (B.o.mono y.o.size));have J:=q_ (show Z<z5/\z+1<Z/\w.heap.size=z from ⟨by have:=b_ bd.o;have h2:wb.heap.size=z5:=av.o;omega,by have:=b_ au.o;have h2:w2.heap.size=Z:=a8.o;omega,Hz.o⟩);clear cs co ar c6;have x1:wd.cell? ⟨z,1,QK⟩=QJ (QQ (QJ O) 1 c1):=QX ae.o 1;have l0:=LL.o wd B.o;go_upto_block 0 with fail;obtain⟨o,Ho⟩:=a_ (ov_ s p.v r);obtain⟨X,ai⟩:=a_ p.v.text;have p3:wd.cell? ⟨Z,3,QK⟩=QJ (QZ X):=(QX c4.o 3).trans (by rw[<-M.o,<-ai.o];rfl)
   have cb:=q_ (show ∀W:QV,XW w2.heap.size w2 W->VRd W F p.v (.agg vp) from λW hb=>by
    have h:=bu.under hb (λb hb=>XZ (HF.o b hb) y.o.size);rwa [M.o]at h)
   clear bu l0;go_cut [55] (λ_ R=>Q_ (∃(A:Option Addr) (G:Nat),R.heap[z5]?=QJ (XX (c_ o (QQ A o.list.length G)) 39 (0,0))/\VRd R F o (.agg (c_ o (QQ A o.list.length G)))/\Turn (λb=>b=z5) wd R))
   case first=>
    have a0:=q_ (show ∀(k:Int) (t:ByteArray) (e:ByteArray) (W:QV),VRd W F (.mk k false 0 t e []) (.agg (c_ (.mk k false 0 t e []) (QQ none 0 0))) from λk t e W=>e9_ W F rfl none 0);by_cases a7:s=Jh_
    ·subst a7;have C:=q_ (show o = .mk 8 false 0 X ⟨#[]⟩ [] from by rw[<-Ho.o,<-ai.o];unfold ov_;rw[iP_ rfl]);unfold Jh_
     go_wp2_with (first
      | ((with_reducible refine d_ (some 59) ?_);refine W_ rfl 39 _ rfl #[(0,QY QU 8),(3,QZ X)] (by kernel_rfl) _ (o2_ _ _ _) ?_)
      | ((with_reducible refine w_ 5 ?_);refine o_ rfl 39 _ _ rfl z5 (#[QY QU 0,XY false,QY QU 0,QZ ⟨#[]⟩,QZ ⟨#[]⟩,QQ QK 0 0]) (#[QY QU 8,XY false,QY QU 0,QZ X,QZ ⟨#[]⟩,QQ QK 0 0]) 39 rfl rfl ac.o rfl (u7_ _ _) (Ak_ _ _) ?_;intro Y U I))
     go_meet;exact q_ ⟨QK,0,by rw[C.o];exact U,by rw[C.o];exact a0.o _ _ _ _,I⟩
    ·have t1:(s.toList==[73,114,105])=false:=by have h:=br_ a7;unfold Jh_ at h;simpa using h
     by_cases ab:s=q9_
     ·subst ab;have C:=q_ (show o = .mk 9 false 0 X ⟨#[]⟩ [] from by rw[<-Ho.o,<-ai.o];unfold ov_;rw[iN_ (by decide),iP_ rfl]);clear t1 a7;unfold q9_
      go_wp2_with (first
       | ((with_reducible refine d_ (some 64) ?_);refine W_ rfl 39 _ rfl #[(0,QY QU 9),(3,QZ X)] (by kernel_rfl) _ (o2_ _ _ _) ?_)
       | ((with_reducible refine w_ 5 ?_);refine o_ rfl 39 _ _ rfl z5 (#[QY QU 0,XY false,QY QU 0,QZ ⟨#[]⟩,QZ ⟨#[]⟩,QQ QK 0 0]) (#[QY QU 9,XY false,QY QU 0,QZ X,QZ ⟨#[]⟩,QQ QK 0 0]) 39 rfl rfl ac.o rfl (u7_ _ _) (Ak_ _ _) ?_;intro Y U I))
      go_meet;exact q_ ⟨QK,0,by rw[C.o];exact U,by rw[C.o];exact a0.o _ _ _ _,I⟩
     ·have t2:(s.toList==[66,108,97,110,107])=false:=by have h:=br_ ab;unfold q9_ at h;simpa using h
      by_cases ak:s=Ji_
      ·subst ak;clear t1 t2 a7 ab;unfold Ji_
       go_upto_region 12 with (first
        | ((with_reducible refine d_ (some 69) ?_);refine W_ rfl 39 _ rfl #[(0,QY QU 10),(3,QZ X)] (by kernel_rfl) _ (o2_ _ _ _) ?_)
        | ((with_reducible refine w_ 5 ?_);refine o_ rfl 39 _ _ rfl z5 (#[QY QU 0,XY false,QY QU 0,QZ ⟨#[]⟩,QZ ⟨#[]⟩,QQ QK 0 0]) (#[QY QU 10,XY false,QY QU 0,QZ X,QZ ⟨#[]⟩,QQ QK 0 0]) 39 rfl rfl ac.o rfl (u7_ _ _) (Ak_ _ _) ?_;intro Y U I))
       have bh:=q_ U;have bg:=q_ I;have x2:Y.cell? ⟨z,2,QK⟩=QJ (QQ (QJ ad) n V):=QX ((I.block z (b_ ae.o) (λe=>by have e:z=z5:=e;have:=J.o;omega)).trans ae.o) 2;clear U I p3
       cases r with
       | nil=>
        have C:=q_ (show o = .mk 10 false 0 X ⟨#[]⟩ [] from by rw[<-Ho.o,<-ai.o];unfold ov_;rw[iN_ (by decide),iN_ (by decide),iP_ rfl]);have hn:n=1:=f.o.symm;subst hn;go_wp2_with fail;go_meet;exact q_ ⟨QK,0,by rw[C.o];exact bh.o,by rw[C.o];exact a0.o _ _ _ _,bg.o⟩
       | cons q r=>
        have hr:r=[]:=by
         have:=d4.o.2;have:=f.o
         cases r with
         | nil=>rfl
         | cons _ _=>simp at this;omega
        subst hr;have hn:n=2:=f.o.symm;subst hn;obtain⟨tq,cf⟩:=a_ q.v.text;have C:=q_ (show o = .mk 10 false 0 X tq [] from by rw[<-Ho.o,<-ai.o,<-cf.o];unfold ov_;rw[iN_ (by decide),iN_ (by decide),iP_ rfl]);obtain⟨dd,cq,e5,bn,_,b3,sq,b0,_⟩:=(HP.o w2 y.o).at_ (i:=1) (x:=q) rfl;injection e5 with e5;subst e5
        have k3:Y.cell? ⟨ad.block,ad.off+7+1+3,QK⟩=QJ (QZ tq):=by
         have h:=b3 4 (by omega);rw[b0]at h;have h2:(c1_ q sq)[4]?=QJ (QZ tq):=by rw[<-cf.o];rfl
         have cl:=XZ (HF.o _ bn) y.o.size;have h3:Y.cell? (ad.add 11)=w2.cell? (ad.add 11):=(bg.o.cell (p:=ad.add 11) (by rw[A_];exact XZ cl B.o.size) (by rw[A_];intro e;have e:ad.block=z5:=e;have h4:w2.heap.size=Z:=a8.o;have:=J.o;omega)).trans (B.o.cell (by rw[A_];exact cl));exact h3.trans (h.trans h2)
        clear b3 b0 bn;go_wp2_with ((with_reducible refine w_ 80 ?_);refine dg_ rfl 9 _ _ rfl z5 4 (#[QY QU 10,XY false,QY QU 0,QZ X,QZ ⟨#[]⟩,QQ QK 0 0]) 39 (QZ tq) rfl rfl (r8_ bh.o (by show 4<6;omega) _) bh.o ?_;intro wf dn dm)
        go_meet;exact q_ ⟨QK,0,by rw[C.o];exact dn,by rw[C.o];exact a0.o _ _ _ _,bg.o.trans dm⟩
      ·have t3:(s.toList==[76,105,116])=false:=by have h:=br_ ak;unfold Ji_ at h;simpa using h
       by_cases b7:s=Jj_
       ·subst b7;have C:=q_ (show o=p.v from by rw[<-Ho.o];unfold ov_;rw[iN_ (by decide),iN_ (by decide),iN_ (by decide),iP_ rfl]);clear t1 t2 t3 a7 ab ak;unfold Jj_
        go_wp2_with (first
         | ((with_reducible refine d_ (some 83) ?_);refine G_ rfl 39 _ rfl Z 0 rfl vp _ (m_ c4.o) YV rfl az.o ?_)
         | ((with_reducible refine w_ 5 ?_);refine o_ rfl 39 _ _ rfl z5 (#[QY QU 0,XY false,QY QU 0,QZ ⟨#[]⟩,QZ ⟨#[]⟩,QQ QK 0 0]) vp 39 rfl rfl ac.o M.size az.o ci.o ?_;intro Y U I))
        go_meet;obtain⟨A,G,e,_⟩:=(cb.o wd B.o).inv;injection e with e;refine q_ ⟨A,G,by rw[C.o,<-e];exact U,?_,I⟩;rw[C.o,<-e];exact cb.o Y (h_ B.o I (λb e=>by have e:b=z5:=e;have h2:w2.heap.size=Z:=a8.o;have:=J.o.1;omega))
       ·have t4:(s.toList==[86,97,108])=false:=by have h:=br_ b7;unfold Jj_ at h;simpa using h
        have C:=q_ (show o=i6_ from by rw[<-Ho.o];unfold ov_;rw[iN_ a7,iN_ ab,iN_ ak,iN_ b7]);clear a7 ab ak b7;go_wp2_with fail;go_meet;exact q_ ⟨QK,0,by rw[C.o];exact ac.o,by rw[C.o];exact a0.o _ _ _ _,Turn.refl _ _⟩
   case rest=>
    rename QV=>R
    obtain⟨A,G,ba,b9,am⟩:=hcut.o;have dr:=q_ am;have ap:=q_ (show XW w.heap.size w R from h_ cz.o am (λb e=>by have e:b=z5:=e;have:=J.o;omega));have cc:=q_ ((am.block z (b_ ae.o) (λe=>by have e:z=z5:=e;have:=J.o;omega)).trans ae.o);have cd:=q_ ((am.block (z+1) (b_ c7.o) (λe=>by have e:z+1=z5:=e;have:=J.o;omega)).trans c7.o);obtain⟨u,Hu⟩:=L_ o (QQ A o.list.length G);rw[Hu.o]at ba b9;have bi:=q_ ba;have ds:=q_ b9;have IU:=q_ (a2_.trans (congrArg QJ Hu.size.symm));have OU:=q_ (show u.all (·.oneCell')=true from by rw[<-Hu.o];kernel_rfl);obtain⟨ko,aw⟩:=a_ o.kind;have k0:R.cell? ⟨z5,0,QK⟩=QJ (QY QU ko):=(QX ba 0).trans (by rw[<-Hu.o,<-aw.o];rfl);have d7:=q_ (show S_ o<=10000000000000000 from by rw[<-Ho.o];exact ZX (x1_ (bc.o.2.2.2 p (by simp)).2 (λq hq=>(bc.o.2.2.2 q (by simp[hq])).2)) (by decide));have bb:=q_ (ei_ o d7.o F (.agg u) R (λb hb=>XZ (HF.o b hb) ap.o.size) b9 (j_ HG.o ap.o));unfold n_ at bb;have cg:=q_ (λj (hj:j<u.size)=>(show R.cell? ((⟨z5,0,QK⟩:Addr).add j)=u[j]? from by rw[Addr.add_mid,VQ,UU R z5 j u _ _ bi.o]));obtain⟨mv,ay⟩:=a_ (I_ o 0);rw[ay.o]at bb;obtain⟨aj,a3⟩:=a_ (decide (ko=0\/ko=5\/mv=false));clear hcut ba b9 am;go_upto_region 16 with fail;go_cut [96] (λdq wy=>dq = XY aj/\Q_ (XW R.heap.size R wy))
    case first=>
     by_cases a6:ko=0
     ·subst a6;have HB:=q_ (show aj=true from by rw[<-a3.o];simp);go_wp2_with fail;go_meet;exact⟨by rw[HB.o],q_ (XV _ _)⟩
     ·by_cases b4:ko=5
      ·subst b4;have HB:=q_ (show aj=true from by rw[<-a3.o];simp);clear a6;go_wp2_with fail;go_meet;exact⟨by rw[HB.o],q_ (XV _ _)⟩
      ·have t1:(ko==0)=false:=by simpa using a6
       have t2:(ko==5)=false:=by simpa using b4
       have HB:=q_ (show aj = !mv from by rw[<-a3.o];cases mv<;>simp[a6,b4])
       clear a6 b4;go_wp2_with ((with_reducible refine d_ (some 93) ?_);refine C_ (by rfl) 39 _ rfl rfl u _ cg.o YV rfl IU.o ?_)
       refine bb.o.mono ?_;rintro e wy ⟨rfl,hb⟩;have HY:=q_ hb;clear hb;go_wp2_with fail;go_meet;exact⟨by rw[HB.o],HY⟩
    case rest=>
     rename QV=>wy
     obtain⟨cj,aa⟩:=hcut;have dt:=q_ aa.o;have c3:=q_ (ap.o.trans (aa.o.mono ap.o.size));have dc:=q_ ((aa.o.block z (b_ cc.o)).trans cc.o);have ce:=q_ ((aa.o.block (z+1) (b_ cd.o)).trans cd.o);have db:=q_ ((aa.o.block z5 (b_ bi.o)).trans bi.o);clear aa k0 cg
     cases aj with
     | true=>
      subst cj;have HT:=q_ (show ce_ ⟨c,[s],p::r⟩=(i6_,false) from by unfold ce_;rw[E.o,iP_ rfl,show l6_ ⟨c,[s],p::r⟩=o from Ho.o,aw.o,ay.o,iP_ (of_decide_eq_true a3.o)]);go_wp2_with ((with_reducible refine w_ 2 ?_);refine o_ rfl 39 _ _ rfl (z+1) (#[QY QU 0,XY false,QY QU 0,QZ ⟨#[]⟩,QZ ⟨#[]⟩,QQ QK 0 0]) (#[QY QU 0,XY false,QY QU 0,QZ ⟨#[]⟩,QZ ⟨#[]⟩,QQ QK 0 0]) 39 rfl rfl ce.o rfl ls_ Al_ ?_;intro w3 bw bs)
      refine ZV (v:=ZJ #[.agg #[QY QU 0,XY false,QY QU 0,QZ ⟨#[]⟩,QZ ⟨#[]⟩,QQ QK 0 0],XY false]) (cn_ results78 (g:=z+1) rfl bw _ YV rfl ls_ rfl) rfl ⟨QK,0,by rw[HT.o];rfl,h_ c3.o bs (λb e=>by have e:b=z+1:=e;have:=J.o.2.2;omega)⟩
     | false=>
      subst cj;have b1:=of_decide_eq_false a3.o;have d3:=q_ (show mv=true from by cases mv with | true=>rfl | false=>exact absurd (.inr (.inr rfl)) b1);have bf:=q_ (show o.list=[] from sz_ (by rw[ay.o];exact d3.o) (by rw[aw.o];exact λe=>b1 (.inr (.inl e))));have HT:=q_ (show ce_ ⟨c,[s],p::r⟩=(o,f1_ (U_ c o) ⟨c,[s],p::r⟩) from by unfold ce_;rw[E.o,iP_ rfl,show l6_ ⟨c,[s],p::r⟩=o from Ho.o,aw.o,ay.o,iN_ b1]);clear b1;have ca:=q_ (show c_ o (QQ A 0 G)=u from by rw[<-Hu.o,bf.o];rfl);have bp:=λW:QV=>s0_ c o bf.o A G W;rw[ca.o]at bp;have d5:=q_ bp;have bt:=HU.o;rw[f.o]at bt;have d9:=q_ (show NoR w F ⟨c,[s],p::r⟩ #[QY QU c,QQ (some O) 1 c1,QQ (some ad) n V] from bt);obtain⟨q,Hq⟩:=a_ (f1_ (U_ c o) ⟨c,[s],p::r⟩);rw[Hq.o]at HT;clear bp bt;go_upto_region 18 with fail;obtain⟨Y,bk⟩:=a_ wy.drew;have c0:=q_ (show XW w.heap.size w Y from by rw[<-bk.o];exact c3.o.drew);have c8:=q_ (show Y.heap[z+1]?=some (XX #[QY QU 0,XY false,QY QU 0,QZ ⟨#[]⟩,QZ ⟨#[]⟩,QQ none 0 0] 39 (0,0)) from by rw[<-bk.o];exact ce.o);refine UZ (S:=λW:QV=>W.heap[z5]?=some (Obj.cells u 39 (0,0))/\W.heap[z]?=some (Obj.cells #[QY QU c,QQ (some O) 1 c1,QQ (some ad) n V] 72 (0,0))) (by kernel_rfl) ⟨db.o,dc.o⟩ λd=>?_;refine H_.o ?_;rw[bk.o]at d ⊢;refine tlW 0 98 (.agg u) d (λw a5=>?_) λd=>?_
      ·exact k_ (cb_ a5.1 39 _ YV rfl IU.o)
      refine O_ 1 99 (YK (QJ ⟨z,0,QK⟩)) d λd=>?_;refine tlW 2 100 (QY QU c) d (λw a5=>?_) λd=>?_
      ·have p:w.cell? ⟨z,0,QK⟩=QJ (QY QU c):=QX a5.2 0;unfold z_;go_simp
      refine tlW 3 101 (.agg u) d (λw a5=>?_) λd=>?_
      ·exact k_ (cb_ a5.1 39 _ YV rfl IU.o)
      refine tlW 5 103 (.agg (#[QY QU c,QQ (QJ O) 1 c1,QQ (QJ ad) n V])) d (λw a5=>?_) λd=>?_
      ·exact k_ (cb_ a5.2 72 _ underlying72 rfl u6_)
      refine tlC 4 λK hK=>?_;go_simp;refine (d5.o _).mono ?_;unfold i7_;rintro e wf ⟨LL,PP,rfl,hl,hp,hb⟩;have d6:=q_ (show NoR wf (λb=>Y.heap.size<=b/\b<wf.heap.size) (U_ c o) (#[QY QU c,LL,PP]) from ⟨_,_,by rw[dd_],hl,hp⟩);have d0:=q_ (show wf.heap[z5]?=QJ (Obj.cells u 39 (0,0))/\wf.heap[z]?=QJ (Obj.cells #[QY QU c,QQ (QJ O) 1 c1,QQ (QJ ad) n V] 72 (0,0)) from ⟨(hb.block z5 (b_ d.1)).trans d.1,(hb.block z (b_ d.2)).trans d.2⟩);have c9:=q_ ((hb.block (z+1) (b_ c8.o)).trans c8.o);have ao:=q_ (c0.o.trans (hb.mono c0.o.size));clear hl hp hb;dsimp only;refine tlB hK d0.o λd=>?_;clear hK K;refine tlC 6 λK hK=>?_;go_simp;refine (tj_ (U_ c o) ⟨c,[s],p::r⟩ (λb=>Y.heap.size<=b/\b<wf.heap.size) F _ _ wf (λb h=>h.2) (λb h=>XZ (HF.o b h) ao.o.size) d6.o (NoR.good.keep d9.o (λa ha=>ao.o.cell (HF.o _ ha))) (nl_ c o) (qu_ c bf.o)).mono ?_;unfold n_;rw[Hq.o];rintro e wg ⟨rfl,hb⟩;have d1:=q_ (show wg.heap[z5]?=QJ (Obj.cells u 39 (0,0))/\wg.heap[z]?=QJ (Obj.cells #[QY QU c,QQ (QJ O) 1 c1,QQ (QJ ad) n V] 72 (0,0)) from ⟨(hb.block z5 (b_ d.1)).trans d.1,(hb.block z (b_ d.2)).trans d.2⟩);have d8:=q_ ((hb.block (z+1) (b_ c9.o)).trans c9.o);have cx:=q_ (ao.o.trans (hb.mono ao.o.size));clear hb;dsimp only;refine tlB hK d1.o λd=>?_;clear hK K;refine tlC 7 λK hK=>?_;refine ml_ 39 _ _ rfl (z+1) (#[QY QU 0,XY false,QY QU 0,QZ ⟨#[]⟩,QZ ⟨#[]⟩,QQ QK 0 0]) u 39 rfl rfl d8.o Hu.size IU.o OU.o λwh ct b8=>?_;have da:=q_ ct;have cy:=q_ (show XW w.heap.size w wh from h_ cx.o b8 (λb e=>by have e:b=z+1:=e;have:=J.o.2.2;omega));have d2:=q_ (show wh.heap[z5]?=QJ (Obj.cells u 39 (0,0))/\wh.heap[z]?=QJ (Obj.cells #[QY QU c,QQ (QJ O) 1 c1,QQ (QJ ad) n V] 72 (0,0)) from ⟨(b8.block z5 (b_ d.1) (λe=>by have e:z5=z+1:=e;have:=J.o;omega)).trans d.1,(b8.block z (b_ d.2) (λe=>by have e:z=z+1:=e;omega)).trans d.2⟩);clear ct b8;refine tlB hK d2.o λd=>?_;clear hK K;refine O_ 8 3 (XY q) d λd=>?_;refine⟨VX (by kernel_rfl) ?_ _⟩;clear d;go_wp2_with fail;refine ZV (v:=ZJ #[.agg u,XY q]) (cn_ results78 (g:=z+1) rfl da.o _ YV rfl IU.o rfl) rfl ⟨A,G,by rw[HT.o,ca.o],cy.o⟩
end
section
open Go Go.RowKit Go.Maps Go.WideMaps Go.WideElems Go.MapKept Go.ChangeMaps
theorem Ic_ {P:Program} {b:Array Oper} {rest:List Oper} {op:Oper} {a:Act} {w:QV} {Q:Exit->Act->QV->Prop} (c:op.guard=QK) (ty:TypeId) (x y:Operand) (g:op.op = .lookup ty x y false) (e d:XJ) (k:a.eval x=e) (n:a.eval y=d) (v:XJ) (j:(Instr.lookup ty e d false).run P w = .ok v w) (h:wpList P b Q rest (a.put op.dst v) w):wpList P b Q (op::rest) a w:=
 wpList_plain c λ_ f=>by
  unfold Oper.wp execOp;simp only[g,k,n,Sem.run_bind,Sem.run_pure,j,Result.andThen_ok];exact f _ _ h
theorem Nt_ {P:Program} {b:Array Oper} {rest:List Oper} {op:Oper} {a:Act} {w:QV} {Q:Exit->Act->QV->Prop} (d:op.guard=QK) (ty:TypeId) (x y z:Operand) (j:op.op = .mapUpdate ty x y z) (f e c:XJ) (n:a.eval x=f) (o:a.eval y=e) (hz:a.eval z=c) (w':QV) (k:(Instr.mapUpdate ty f e c).run P w = .ok () w') (h:wpList P b Q rest (a.put op.dst undef) w'):wpList P b Q (op::rest) a w:=
 wpList_plain d λ_ g=>by
  unfold Oper.wp execOp;simp only[j,n,o,hz,Sem.run_bind,Sem.run_pure,k,Result.andThen_ok];exact g _ _ h
theorem Ls_ (w:QV):(Instr.makeMap 134 QK).run QW w = .ok (.map (QJ w.heap.size)) (w.alloc (.map #[] 0)):=by kernel_rfl
def StM (w:QV) (m:Nat) (l:List (Int×XJ)):Prop:=∃(a:Array MapEntry) (clock:Nat),w.heap[m]?=QJ (.map a clock)/\a.toList.map (λe=>(e.key,e.val))=l.map (λp=>(Value.int QU p.1,p.2))/\(∀p,p∈l->VI p.1)/\(l.map (·.1)).Nodup
def n5_ (l:List (Int×XJ)) (i:Int):XJ:=match l.find? (λp=>decide (p.1=i)) with | some p=>p.2 | none=>.agg #[QY QU 0,XY false,QY QU 0,QZ ⟨#[]⟩,QZ ⟨#[]⟩,QQ none 0 0]
theorem StM.fresh {w:QV} {m:Nat} (h:w.heap[m]?=some (.map #[] 0)):StM w m []:=⟨#[],0,h,rfl,(λ_ h=>by cases h),List.nodup_nil⟩
theorem StM.lt {w:QV} {m:Nat} {l:List (Int×XJ)} (h:StM w m l):m<w.heap.size:=by obtain⟨b,a,hb,_⟩:=h;exact b_ hb
theorem StM.turn {w w':QV} {m:Nat} {l:List (Int×XJ)} {S:Nat->Prop} (h:StM w m l) (ht:Turn S w w') (c:¬S m):StM w' m l:=by obtain⟨b,a,hb,h2⟩:=h;exact⟨b,a,(ht.block m (b_ hb) c).trans hb,h2⟩
theorem StM.on {w w':QV} {m:Nat} {l:List (Int×XJ)} (h:StM w m l) (hb:XW w.heap.size w w'):StM w' m l:=
 h.turn (Turn.of_below hb) (λe=>by have:=h.lt;omega)
section
variable {w:QV} {m:Nat} {l:List (Int×XJ)} {i:Int}
theorem Bt_ {b:List MapEntry} (h:b.map (λe=>(e.key,e.val))=l.map (λp=>(Value.int QU p.1,p.2))) (f:∀p,p∈l->VI p.1):∀e,e∈b->∃q,keyOf QW 2 e.key=QJ q:=λe c=>by
 have h1:(e.key,e.val)∈l.map (λp=>(Value.int QU p.1,p.2)):=by rw[<-h];exact List.mem_map.2 ⟨e,c,rfl⟩
 obtain⟨p,d,a⟩:=List.mem_map.1 h1;injection a with a _;exact⟨iz_ p.1,by rw[<-a];exact keyOf_int_mk underlying2 (f p d)⟩
theorem Do_ {b:List MapEntry} (h:b.map (λe=>(e.key,e.val))=l.map (λp=>(Value.int QU p.1,p.2))) (f:∀e,e∈b->e.key ≠ QY QU i):∀p,p∈l->p.1≠i:=λp g c=>by
 have h1:((Value.int QU p.1,p.2):XJ×XJ)∈b.map (λe=>(e.key,e.val)):=by rw[h];exact List.mem_map.2 ⟨p,g,rfl⟩
 obtain⟨e,d,a⟩:=List.mem_map.1 h1;injection a with a _;exact f e d (by rw[a,c])
theorem Dp_ {r:List MapEntry} {j:Nat} {e:MapEntry} (h:r.map (λe=>(e.key,e.val))=l.map (λp=>(Value.int QU p.1,p.2))) (x:r[j]?=QJ e) (y:e.key = QY QU i) (v:(l.map (·.1)).Nodup):n5_ l i=e.val:=by
 have h1:(l.map (λp=>((Value.int QU p.1,p.2):XJ×XJ)))[j]?=QJ (QY QU i,e.val):=by rw[<-h,List.getElem?_map,x];simp[y]
 rw[List.getElem?_map]at h1
 cases hl:l[j]? with
 | none=>rw[hl]at h1;cases h1
 | some p=>
  rw[hl]at h1;simp only[Option.map_some,Option.some.injEq,Prod.mk.injEq,Value.int.injEq,true_and]at h1;have o:=YZ hl;unfold n5_
  cases hf:l.find? (λp=>decide (p.1=i)) with
  | none=>
   have:=List.find?_eq_none.1 hf p o;simp[h1.1]at this
  | some q=>
   have c:=List.find?_some hf;have u:=List.mem_of_find?_eq_some hf;have c:q.1=i:=by simpa using c
   obtain⟨k,f,g⟩:=List.mem_iff_getElem.1 u;obtain⟨d,n⟩:=List.getElem?_eq_some_iff.1 hl
   have s:k=j:=by
    have t:=List.pairwise_iff_getElem.1 v;have b:∀(a:Nat) (h:a<(l.map (·.1)).length),(l.map (·.1))[a]=(l[a]'(by simpa using h)).1:=λa h=>List.getElem_map ..;rcases Nat.lt_trichotomy k j with h | h | h
    ·exact absurd (by rw[b,b,g,n,c,h1.1]) (t k j (by simpa using f) (by simpa using d) h)
    ·exact h
    ·exact absurd (by rw[b,b,g,n,c,h1.1]) (t j k (by simpa using d) (by simpa using f) h)
   subst s;have:q=p:=by rw[<-g,<-n]
   rw[this];exact h1.2
theorem J9_ (w:QV):(zeroValue 39).run QW w = .ok (.agg #[QY QU 0,XY false,QY QU 0,QZ ⟨#[]⟩,QZ ⟨#[]⟩,QQ QK 0 0]) w:=by kernel_rfl
theorem tv_ (h:StM w m l) (hi:VI i):(Instr.lookup 134 (.map (QJ m)) (QY QU i) false).run QW w = .ok (n5_ l i) w:=by
 obtain⟨d,c,hb,b,n,f⟩:=h;have a:=keyOf_int_mk underlying2 hi;rcases xm_.find w a d.toList (Bt_ b n) with⟨h1,h2⟩ | ⟨j,e0,h1,h2,e⟩
 ·have g:=Do_ b h2;have hz:n5_ l i = .agg #[QY QU 0,XY false,QY QU 0,QZ ⟨#[]⟩,QZ ⟨#[]⟩,QQ QK 0 0]:=by unfold n5_;rw[List.find?_eq_none.2 (λp k=>by simpa using g p k)]
  rw[hz];simp[Instr.lookup,run_underlying underlying134,MapKept.run_getObj_map hb,xm_.check w _ a,h1,J9_ w,Result.andThen]
 ·rw[Dp_ b h2 e f];simp[Instr.lookup,run_underlying underlying134,MapKept.run_getObj_map hb,xm_.check w _ a,h1,Result.andThen]
theorem E5_ (h:StM w m l) (hi:VI i) (r:i∉l.map (·.1)) (v:XJ):∃w',(Instr.mapUpdate 134 (.map (QJ m)) (QY QU i) v).run QW w = .ok () w'/\StM w' m (l++[(i,v)])/\Turn (λb=>b=m) w w':=by
 obtain⟨n,d,hb,o,t,y⟩:=h;have k:=keyOf_int_mk underlying2 hi;rcases xm_.find w k n.toList (Bt_ o t) with⟨h1,h2⟩ | ⟨j,e0,h1,h2,u⟩
 ·refine⟨setBlock w m (.map (n.push ⟨QY QU i,v,d⟩) (d+1)),?_,⟨n.push ⟨QY QU i,v,d⟩,d+1,?_,?_,?_,?_⟩,?_⟩
  ·simp[Instr.mapUpdate,run_underlying underlying134,MapKept.run_getObj_map hb,xm_.check w false k,h1,MapKept.run_setObj_map _ hb,Result.andThen,setBlock]
  ·unfold setBlock;simp[b_ hb]
  ·rw[Array.toList_push,List.map_append,List.map_append,o];rfl
  ·intro p g;rcases List.mem_append.1 g with g | g
   ·exact t p g
   ·rw[List.mem_singleton.1 g];exact hi
  ·rw[List.map_append];refine List.nodup_append.2 ⟨y,by simp,λa x c q f=>?_⟩;simp only[List.map_cons,List.map_nil,List.mem_singleton]at q;exact r (by rw[<-q,<-f];exact x)
  ·refine⟨rfl,rfl,rfl,by unfold setBlock;simp,λb A s=>?_⟩;unfold setBlock;exact Array.getElem?_setIfInBounds_ne λe=>s e.symm
 ·exfalso;have z:((Value.int QU i,e0.val):XJ×XJ)∈l.map (λp=>(Value.int QU p.1,p.2)):=by rw[<-o];exact List.mem_map.2 ⟨e0,YZ h2,by rw[u]⟩
  obtain⟨p,g,f⟩:=List.mem_map.1 z;injection f with f _;injection f with _ f;exact r (List.mem_map.2 ⟨p,g,f⟩)
end
end
section
open Go Go.RowKit Go.Maps Go.WideMaps Go.MapKept
theorem w6_ (g:D_) (bm:j3_ g) (F:Nat->Prop) (u:XJ) (w:QV) (hF:∀b,F b->b<w.heap.size) (hg:GrR w F g u) (ed:ad_ w) :
    Calls QW 32 #[u] w (sq_ g w):=by
 have fr:=@run_makeMap QW;obtain⟨NV,EV,rfl,⟨AN,cN,rfl,f9,ej⟩,AE,cE,rfl,f8,ei⟩:=hg;have HF:=q_ hF;have HG:=q_ ed;have bg:=q_ bm;have e6:=q_ ej;have e5:=q_ ei;have ek:=bm.1;have el:=bm.2.1;obtain⟨nN,av⟩:=a_ g.nodes.length;obtain⟨nE,au⟩:=a_ g.edges.length;rw[av.o]at e6 ek ⊢;rw[au.o]at e5 el ⊢;clear hF ed bm ej ei f9 f8;obtain⟨z,HZ⟩:=a_ w.heap.size;have cd:=q_ (show dn_ g=(decide (nN<=131072/\nE<=65536)&&(aj_ okN i_.id [] g.nodes&&aj_ (okE (g.nodes.map i_.id)) l_.id [] g.edges)) from by rw[<-av.o,<-au.o];rfl);by_cases j:nN<=131072/\nE<=65536
 ·have e1:decide ((131072:Int)<nN)=false:=dF_ (by omega);have e2:decide ((65536:Int)<nE)=false:=dF_ (by omega);rw[dT_ j]at cd;have ek:nN<=131072:=j.1;have el:nE<=65536:=j.2;clear j;go_enter func32,ntmps32
  go_wp2_with fail;rw[HZ.o];simp only[Nat.add_assoc,Nat.reduceAdd];obtain⟨w6,dc⟩:=a_ ((((((w.alloc (XX #[QQ AN nN cN,QQ AE nE cE] 54)).alloc (.map #[] 0)).alloc (.map #[] 0)).alloc (.map #[] 0)).alloc (XX #[QQ QK 0 0,QQ QK 0 0,.map (QJ (z+1)),.map (QJ (z+2)),.map (QJ (z+3))] 143)).alloc (.map #[] 0))
  have f0:=q_ (show f7_ w z (QQ AN nN cN) (QQ AE nE cE) g.nodes [] 0 [] (QQ QK 0 0) w6 from by
   have hz:=HZ.o;have hh:=L5_ w (XX #[QQ AN nN cN,QQ AE nE cE] 54) (.map #[] 0) (.map #[] 0) (.map #[] 0) (XX #[QQ QK 0 0,QQ QK 0 0,.map (QJ (z+1)),.map (QJ (z+2)),.map (QJ (z+3))] 143) (.map #[] 0);rw[dc.o]at hh;refine⟨?_,?_,?_,?_,?_,?_,?_,x_.nil ..,b1_.nil _,rfl⟩
   ·rw[<-dc.o];exact ((((((XV _ _).alloc (by omega) _).alloc (by simp;omega) _).alloc (by simp;omega) _).alloc (by simp;omega) _).alloc (by simp;omega) _).alloc (by simp;omega) _
   ·rw[hh];exact hf_ (i:=0) hz rfl
   ·rw[hh];exact hf_ (i:=1) hz rfl
   ·rw[hh];exact hf_ (i:=2) hz rfl
   ·rw[hh];exact hf_ (i:=3) hz rfl
   ·rw[hh];exact hf_ (i:=4) hz rfl
   ·exact⟨.map [],⟨#[],0,by rw[hh];exact hf_ (i:=5) hz rfl,⟨by simp,stamped_empty 0,by simp⟩,XK _,rfl⟩,λ_ _=>rfl⟩)
  rw[dc.o];go_loopw [36] (λds wr=>∃(k:Nat) (ns:List i_) (Ns:XJ),k<=nN/\ds = QY QU (k:Nat)/\Q_ (f7_ w z (QQ AN nN cN) (QQ AE nE cE) g.nodes ((g.nodes.take k).map i_.id) k ns Ns wr)) (λds _=>nN-(intOf ds).toNat)
  case atStart=>exact⟨0,[],_,by omega,rfl,f0⟩
  case round=>
   obtain⟨k,ns,Ns,hk,rfl,D⟩:=hrel;by_cases b4:k<nN
   ·obtain⟨x,r⟩:∃x,g.nodes[k]?=QJ x:=⟨g.nodes[k]'(by rw[av.o];exact b4),XQ _⟩;have HX:=q_ r;have O:=q_ (bg.o.2.2.1 x (YZ r));have ak:=q_ (λ(h:okN ((g.nodes.take k).map i_.id) x=false)=>Np_ (vj_ (key:=i_.id) r h));have cb:=q_ (λ(h:okN ((g.nodes.take k).map i_.id) x=true)=>yq_ r h D.o.ok);have af:=q_ (show z+5<wr.heap.size from D.o.set.lt);have V:=q_ (λ(b:Nat) (hb:F b)=>show b<z from by rw[<-HZ.o];exact HF.o b hb);obtain⟨ad,A1,c1,A2,c2,rfl,ay,cp,cq,ae,d0,d1,d2⟩:=jk_ (e6.o.under NoR.good D.o.below V.o) r;have L:=q_ cp;have e3:=q_ cq;have bs:=q_ ae;clear r ay cp cq ae;obtain⟨id,f⟩:=a_ x.id;obtain⟨m1,ba⟩:=a_ x.labels.length;obtain⟨m2,ab⟩:=a_ x.props.length;rw[ba.o]at e3 d1 L;rw[ab.o]at bs d2 L;rw[f.o]at d0 L;have fq:m1<=2000000:=by rw[<-ba.o];exact O.o.1.1
    have fc:m2<=2000000:=by rw[<-ab.o];exact O.o.1.2.1
    obtain⟨a,q⟩:=a_ wr.heap.size;rw[q.o]at af;obtain⟨w2,M⟩:=a_ (((wr.alloc (XX #[QY QU id,QQ A1 m1 c1,QQ A2 m2 c2] 72)).alloc (.map #[] 0)).alloc (XX #[.map (QJ (a+1))] 147));have b8:=q_ (show XW wr.heap.size wr w2 from by rw[<-M.o];exact pw_ wr _ _ _);have bc:=E6_ wr (XX #[QY QU id,QQ A1 m1 c1,QQ A2 m2 c2] 72) (.map #[] 0) (XX #[.map (QJ (a+1))] 147);rw[M.o]at bc;have b9:=q_ (show w2.heap[a]?=QJ (XX #[QY QU id,QQ A1 m1 c1,QQ A2 m2 c2] 72 (0,0)) from by rw[bc];exact hf_ (i:=0) q.o rfl);have ez:=q_ (show w2.heap[a+1]?=QJ (.map #[] 0) from by rw[bc];exact hf_ (i:=1) q.o rfl);have br:=q_ (show w2.heap[a+2]?=QJ (XX #[.map (QJ (a+1))] 147 (0,0)) from by rw[bc];exact hf_ (i:=2) q.o rfl);have d7:=q_ (show w2.heap.size=a+3 from by rw[bc,<-q.o];simp);clear bc;have dh:=q_ (C6_ x.labels (λs hs=>by have:=O.o.1.2.2.1 s hs;unfold VS maxLen;omega) ⟨a+2,0,QK⟩ (a+1) F A1 m1 c1 w2 (λb hb=>by have:=V.o b hb;have:=d7.o;have:=af.o;omega) (e3.o.under TxR.good b8.o (λb hb=>by have:=V.o b hb;have:=q.o;have:=af.o;omega)) (by omega) (QX br.o 0) (by show a+2<_/\a+2≠_;rw[d7.o];omega) (L1_ ez.o));unfold zg_ at dh;obtain⟨lb,cy⟩:=a_ (bo_ [] x.labels);rw[cy.o]at dh;have b1:w2.cell? ⟨a,1,QK⟩=QJ (QQ A1 m1 c1):=QX b9.o 1;have e1:(0:Int)<=k:=by omega
    have e2:(k:Int)<nN:=by omega
    go_upto_region 9 with fail;rw[q.o];simp only[Nat.add_assoc,Nat.reduceAdd];rw[M.o];go_wp2_with fail;refine dh.o.mono ?_;rintro e w3 ⟨rfl,S⟩;have du:=q_ (b8.o.trans (S.below (B:=wr.heap.size) (λi _ hi=>by rw[hi,q.o];omega) b8.o.size));have t:=q_ (D.o.on du.o);have c4:=q_ ((S.block a (by rw[d7.o];omega) (by omega)).trans b9.o);have c0:w3.cell? ⟨a,0,none⟩=some (QY QU id):=QX c4.o 0;have ce:=q_ (Cd_ (z+5) ((g.nodes.take k).map i_.id) id (by rw[<-f.o];exact O.o.2) (by simp;omega) w3 t.o.set);obtain⟨ib,a7⟩:=a_ (inB ((g.nodes.take k).map i_.id) id);obtain⟨pb,a9⟩:=a_ (bc_ x.props);have HN:=q_ (show (decide (0<=id)&&(!ib&&(lb&&(decide (m1<=65536)&&pb))))=false->dn_ g=false from λh=>ak.o (by unfold okN;rw[f.o,a7.o,cy.o,ba.o,a9.o];exact h));have HY:=q_ (show (decide (0<=id)&&(!ib&&(lb&&(decide (m1<=65536)&&pb))))=true->aj_ okN i_.id [] (g.nodes.take (k+1))=true from λh=>cb.o (by unfold okN;rw[f.o,a7.o,cy.o,ba.o,a9.o];exact h));clear S b1 d0 d1 d2;by_cases a3:id<0
    ·have q1:decide (id<0)=true:=dT_ a3;have U:=q_ (HN.o (by rw[dF_ (by omega)];rfl));clear a3;go_wp2_with fail;go_ret2;exact⟨by rw[HZ.o];exact t.o.below,.inl ⟨U.o,rfl⟩⟩
    ·have q1:decide (id<0)=false:=dF_ a3;rw[dT_ (show 0<=id by omega)]at HN HY;clear a3;go_wp2_with fail;refine ce.o.mono ?_;rintro e w4 ⟨rfl,b7,y⟩;rw[a7.o];have aq:=q_ y;have ev:=q_ b7;have cl:=q_ (show XW z w w4 from t.o.below.trans (y.below (B:=z) (λi _ hi=>by omega) (by have:=t.o.set.lt;omega)));clear y b7
     cases ib with
     | true=>
      have U:=q_ (HN.o rfl);go_wp2_with fail;go_ret2;exact⟨by rw[HZ.o];exact cl.o,.inl ⟨U.o,rfl⟩⟩
     | false=>
      cases lb with
      | false=>
       have U:=q_ (HN.o rfl);go_wp2_with fail;go_ret2;exact⟨by rw[HZ.o];exact cl.o,.inl ⟨U.o,rfl⟩⟩
      | true=>
       have fo:w3.heap.size<=w4.heap.size:=aq.o.size;have a5:=q_ ((aq.o.block a (b_ c4.o) (by have:=af.o;omega)).trans c4.o);have k1:w4.cell? ⟨a,1,none⟩=some (QQ A1 m1 c1):=QX a5.o 1;have k2:w4.cell? ⟨a,2,none⟩=some (QQ A2 m2 c2):=QX a5.o 2;by_cases bn:m1<=65536
       ·have q2:decide ((65536:Int)<m1)=false:=dF_ (by omega);rw[dT_ bn]at HN HY;have bf:=q_ (show XW z wr w4 from (du.o.mono (by have:=q.o;have:=af.o;omega)).trans (aq.o.below (B:=z) (λi _ hi=>by omega) (by have:=t.o.set.lt;omega)));have bz:=q_ (td_ x.props O.o.1.2.2.2 O.o.1.2.1 F A2 m2 c2 w4 (λb hb=>by have:=V.o b hb;have:=t.o.set.lt;omega) (bs.o.under PaR.good bf.o (λb hb=>V.o b hb)) (Hn_ HG.o HZ.o cl.o));rw[a9.o]at bz;clear bn;go_wp2_with fail;refine bz.o.mono ?_;rintro e w5 ⟨rfl,R⟩;have d:=q_ ((t.o.put aq.o ev.o).on R);have v:=q_ ((R.block a (b_ a5.o)).trans a5.o);have ag:=q_ (bf.o.trans (R.mono (by have:=t.o.set.lt;omega)));clear R
        cases pb with
        | false=>
         have U:=q_ (HN.o rfl);go_wp2_with fail;go_ret2;exact⟨by rw[HZ.o];exact d.o.below,.inl ⟨U.o,rfl⟩⟩
        | true=>
         have dd:=q_ (HY.o rfl);have j:ns.length=k:=by rw[<-d.o.all.1,UJ,av.o];omega
         have c8:=q_ j;obtain⟨A3,c3,h3⟩:=d.o.own.form;rw[j]at h3;subst h3;have dj:=q_ (xw_ x O.o.1 (gi_ a9.o) F _ w5.drew (λb hb=>by have:=V.o b hb;have:=d.o.set.lt;show b<w5.heap.size;omega) (NoR.good.keep L.o (w':=w5.drew) (λp hp=>ag.o.cell (V.o _ hp))));obtain⟨cs,a6,aw,az,hr⟩:=d.o.own;rw[j]at a6 aw;have ca:=q_ a6;have ai:=q_ (show ∀b,(Value.slice A3 k c3).ownBlock=some b->z+6<=b/\b<w5.heap.size from az);have aa:=q_ (And.intro aw hr);have g0:w5.drew.cell? ⟨z+4,0,none⟩=some (QQ A3 k c3):=QX d.o.store 0;have n0:w5.drew.cell? ⟨a,0,none⟩=some (QY QU id):=QX v.o 0;have n1:w5.drew.cell? ⟨a,1,none⟩=some (QQ A1 m1 c1):=QX v.o 1;have n2:w5.drew.cell? ⟨a,2,none⟩=some (QQ A2 m2 c2):=QX v.o 2;clear j a6 aw az hr k1 k2 c0;obtain⟨i0,di,cg,ch,ci⟩:=info_parts qj_;go_upto_region 12 with fail;go_region_law (first | (refine step_append_lies _ rfl _ _ 51 rfl 0 72 i0 (.agg #[QY QU 0,QQ none 0 0,QQ none 0 0]) 3 56 underlying51 di cg ch ci rfl (by decide) (QQ A3 k c3) k (R_ cs k) rfl (by exact bj.o.alloc _) ⟨w6.heap.size,0,none⟩ 1 1 [QY QU id,QQ A6 q6 c6,QQ B6 r6 N] rfl rfl (World.news_of_block (cs:=#[QY QU id,QQ A6 q6 c6,QQ B6 r6 N]) (by exact NB.o)) c9.o (by omega) (by unfold maxLen;omega) (by omega) (Nat.zero_le _) (w6.heap.size+1) (by exact d8.o) (λg7 c7 w7 bx Z bw _=>?_);have d6:=q_ bx;have bq:=q_ (show w6.grownBy w7 (Value.slice A3 k c3).ownBlock from ak_ (w:=w6) (o:=XX #[QY QU id,QQ A6 q6 c6,QQ B6 r6 N] 72) ⟨Z.os,Z.tape,Z.output,Z.size,Z.block⟩);have cx:=q_ (show (Value.slice A3 k c3).ownBlock=some g7\/g7=w6.heap.size+1 from bw);have bp:=q_ ((bq.o.block (z+4) (by have:=ap.o;omega) (λe=>by have:=ai.o (z+4) e.symm;omega)).trans ao.o);have f7:w7.frozen? ⟨z+4,0,none⟩=false:=YY bp.o 0;have f4:w7.cell? ⟨z+4,0,none⟩=some (QQ A3 k c3):=QX bp.o 0;clear bx Z bw) | (go_simp;go_at_call 91;(with_reducible refine dj.o.mono ?_);rintro e w6 ⟨cc,n',rfl,G,C,b5⟩;have aj:=q_ b5;obtain⟨L6,P6,rfl,⟨A6,c6,rfl,_,_⟩,B6,N,rfl,_,_⟩:=b5;obtain⟨q6,f2⟩:=a_ n'.labels.length;obtain⟨r6,de⟩:=a_ n'.props.length;rw[f2.o,de.o]at aj ⊢;rw[C.1,f.o]at aj ⊢;have ct:=q_ G;have am:=q_ C;have ap:=q_ (show z+5<w6.heap.size from by have h1:w5.heap.size<=w6.heap.size:=G.size;have:=d.o.set.lt;omega);have bj:=q_ ((Turn.of_below G).owns ca.o (λg hg h=>by have:=ai.o g hg;have h2:w5.heap.size<=g:=h;omega));have ao:=q_ ((G.block (z+4) (by show z+4<w5.heap.size;have:=d.o.set.lt;omega)).trans d.o.store);have df:w6.cell? ⟨z+4,0,none⟩=some (QQ A3 k c3):=QX ao.o 0;have f3:(w6.alloc (XX #[QY QU id,QQ A6 q6 c6,QQ B6 r6 N] 72)).cell? ⟨z+4,0,none⟩=some (QQ A3 k c3):=(World.cell?_alloc_lt w6 _ _ (by show z+4<_;have:=ap.o;omega)).trans df;have c9:=q_ (show ∀u∈([QY QU id,QQ A6 q6 c6,QQ B6 r6 N]:List XJ),u.oneCell'=true from λu hu=>by simp at hu;rcases hu with rfl | rfl | rfl<;>rfl);have NB:=q_ (XU w6 (XX #[QY QU id,QQ A6 q6 c6,QQ B6 r6 N] 72));have d8:=q_ (show (w6.alloc (XX #[QY QU id,QQ A6 q6 c6,QQ B6 r6 N] 72)).heap.size=w6.heap.size+1 by simp);clear G C))
         all_goals (
          have w1:IntKind.i64.wrap ((k:Int)+1)=(k:Int)+1:=YU _ (by omega);go_wp2_with fail;go_roundw)
         all_goals first
          | (case measure=>simp[intOf];omega)
          | (case rel=>
              refine⟨k+1,ns++[n'],QQ (QJ ⟨g7,0,QK⟩) (k+1) c7,by omega,by go_num,q_ ?_⟩;have h:=f7_.more d.o c8.o ai.o aa.o.1 aa.o.2 HX.o (b2_ ct.o) am.o aj.o rfl bq.o cx.o d6.o dd.o;have e1:f3_ ((g.nodes.take k).map i_.id) id=(g.nodes.take (k+1)).map i_.id:=by unfold f3_;rw[a7.o,iN_ (by decide),f_ HX.o,List.map_append,<-f.o];rfl
              rw[e1]at h;exact h)
       ·have q2:decide ((65536:Int)<m1)=true:=dT_ (by omega);have U:=q_ (HN.o (by rw[dF_ bn];rfl));clear bn;go_wp2_with fail;go_ret2;exact⟨by rw[HZ.o];exact cl.o,.inl ⟨U.o,rfl⟩⟩
   ·have ac:k=nN:=by omega
    have dp:=q_ (show g.nodes.take k=g.nodes from YJ (by rw[av.o,ac];exact XK _));have E:=D.o;have dl:=q_ (show aj_ okN i_.id [] g.nodes=true from by have h:=E.ok;rw[dp.o]at h;exact h);have bl:=q_ (show b1_ kb_ g.nodes ns from by have h:=E.all;rw[dp.o]at h;exact h);rw[dp.o]at E;have dg:=q_ ((E.on ((XV wr.heap.size wr).alloc (XK _) (.map #[] 0))).box);have cm:=q_ (E.next g.edges);have fg:=q_ E.set.lt;obtain⟨z2,ea⟩:=a_ wr.heap.size;obtain⟨wa,e9⟩:=a_ (wr.alloc (.map #[] 0));rw[ea.o]at cm fg;rw[e9.o]at cm dg;have b1:wa.cell? ⟨z,1,QK⟩=QJ (QQ AE nE cE):=QX dg.o 1;clear E;subst ac;go_upto_region 15 with fail;rw[ea.o,e9.o];go_wp2_with fail;clear b1;go_loopw [86] (λdt wx=>∃(k:Nat) (es:List l_) (Es:XJ),k<=nE/\dt = QY QU (k:Nat)/\Q_ (f8_ w z z2 (g.nodes.map i_.id) ns Ns g.edges ((g.edges.take k).map l_.id) k es Es wx)) (λdt _=>nE-(intOf dt).toNat)
    case atStart=>exact⟨0,[],_,by omega,rfl,cm⟩
    case round=>
     clear cm dg D;obtain⟨k,es,Es,hk,rfl,D⟩:=hrel;by_cases b4:k<nE
     ·obtain⟨x,r⟩:∃x,g.edges[k]?=QJ x:=⟨g.edges[k]'(by rw[au.o];exact b4),XQ _⟩;have HX:=q_ r;have O:=q_ (bg.o.2.2.2 x (YZ r));have ak:=q_ (λ(h:okE (g.nodes.map i_.id) ((g.edges.take k).map l_.id) x=false)=>Lr_ (vj_ (key:=l_.id) r h));have cb:=q_ (λ(h:okE (g.nodes.map i_.id) ((g.edges.take k).map l_.id) x=true)=>yq_ r h D.o.ok);have a2:=q_ D.o.far;have af:=q_ (show z2<wr.heap.size from D.o.set.lt);have V:=q_ (λ(b:Nat) (hb:F b)=>show b<z from by rw[<-HZ.o];exact HF.o b hb);obtain⟨fp,A2,c2,rfl,ay,co,ae,d0,d1,d2,d3,d4⟩:=jf_ (e5.o.under EdR.good D.o.below V.o) r;have L:=q_ co;have bs:=q_ ae;clear r ay co ae;obtain⟨id,f⟩:=a_ x.id;obtain⟨src,a1⟩:=a_ x.src;obtain⟨dst,a0⟩:=a_ x.dst;obtain⟨I,ah⟩:=a_ x.type;obtain⟨m2,ab⟩:=a_ x.props.length;rw[ab.o]at bs d4 L;rw[f.o]at d0 L;rw[a1.o]at d1 L;rw[a0.o]at d2 L;rw[ah.o]at d3 L;have fc:m2<=2000000:=by rw[<-ab.o];exact O.o.1.2.1
      obtain⟨a,q⟩:=a_ wr.heap.size;rw[q.o]at af;obtain⟨w2,M⟩:=a_ (wr.alloc (XX #[QY QU id,QY QU src,QY QU dst,QZ I,QQ A2 m2 c2] 74));have b8:=q_ (show XW wr.heap.size wr w2 from by rw[<-M.o];exact (XV _ _).alloc (XK _) _);have b9:=q_ (show w2.heap[a]?=QJ (XX #[QY QU id,QY QU src,QY QU dst,QZ I,QQ A2 m2 c2] 74 (0,0)) from by rw[<-M.o,<-q.o];exact XU wr _);have t:=q_ (D.o.on b8.o);have c0:w2.cell? ⟨a,0,QK⟩=QJ (QY QU id):=QX b9.o 0;have e1:(0:Int)<=k:=by omega
      have e2:(k:Int)<nE:=by omega
      have ce:=q_ (Cd_ z2 ((g.edges.take k).map l_.id) id (by rw[<-f.o];exact O.o.2.1) (by simp;omega) w2 t.o.set);have fb:=q_ (λ(W:QV) (h:a5_ 2 VI iz_ W (z+5) (g.nodes.map i_.id))=>u2_ (z+5) (g.nodes.map i_.id) src (by rw[<-a1.o];exact O.o.2.2.1) W h);have fa:=q_ (λ(W:QV) (h:a5_ 2 VI iz_ W (z+5) (g.nodes.map i_.id))=>u2_ (z+5) (g.nodes.map i_.id) dst (by rw[<-a0.o];exact O.o.2.2.2) W h);have et:=q_ (λW=>vq_ I W);obtain⟨ib,a7⟩:=a_ (inB ((g.edges.take k).map l_.id) id);obtain⟨sb,d9⟩:=a_ (inB (g.nodes.map i_.id) src);obtain⟨db,cv⟩:=a_ (inB (g.nodes.map i_.id) dst);obtain⟨tb,da⟩:=a_ (a6_ I);obtain⟨pb,a9⟩:=a_ (bc_ x.props);rw[da.o]at et;have HN:=q_ (show (decide (0<=id)&&(!ib&&(sb&&(db&&(tb&&pb)))))=false->dn_ g=false from λh=>ak.o (by unfold okE;rw[f.o,a1.o,a0.o,ah.o,a7.o,d9.o,cv.o,da.o,a9.o];exact h));have HY:=q_ (show (decide (0<=id)&&(!ib&&(sb&&(db&&(tb&&pb)))))=true->aj_ (okE (g.nodes.map i_.id)) l_.id [] (g.edges.take (k+1))=true from λh=>cb.o (by unfold okE;rw[f.o,a1.o,a0.o,ah.o,a7.o,d9.o,cv.o,da.o,a9.o];exact h));go_upto_region 18 with fail;rw[q.o,M.o];clear d0 d1 d2 d3 d4;by_cases a3:id<0
      ·have q1:decide (id<0)=true:=dT_ a3;have U:=q_ (HN.o (by rw[dF_ (by omega)];rfl));clear a3;go_wp2_with fail;go_ret2;exact⟨by rw[HZ.o];exact t.o.below,.inl ⟨U.o,rfl⟩⟩
      ·have q1:decide (id<0)=false:=dF_ a3;rw[dT_ (show 0<=id by omega)]at HN HY;clear a3;go_wp2_with fail;refine ce.o.mono ?_;rintro e w4 ⟨rfl,b7,y⟩;rw[a7.o];have a8:=q_ (t.o.put y b7);have a5:=q_ ((y.block a (b_ b9.o) (by have:=af.o;omega)).trans b9.o);have bf:=q_ (show XW z wr w4 from (b8.o.mono (by have:=q.o;have:=af.o;have:=a2.o;omega)).trans (y.below (B:=z) (λi _ hi=>by have:=a2.o;omega) (by have:=t.o.set.lt;have:=a2.o;omega)));clear y b7 c0
       cases ib with
       | true=>
        have U:=q_ (HN.o rfl);go_wp2_with fail;go_ret2;exact⟨by rw[HZ.o];exact a8.o.below,.inl ⟨U.o,rfl⟩⟩
       | false=>
        have k1:w4.cell? ⟨a,1,QK⟩=QJ (QY QU src):=QX a5.o 1;go_wp2_with fail;refine (fb.o _ a8.o.nset).mono ?_;rintro e w5 ⟨rfl,R⟩;rw[d9.o];have d:=q_ (a8.o.on R);have v:=q_ ((R.block a (b_ a5.o)).trans a5.o);have ag:=q_ (bf.o.trans (R.mono (by have:=a8.o.set.lt;have:=a2.o;omega)));clear R k1
        cases sb with
        | false=>
         have U:=q_ (HN.o rfl);go_wp2_with fail;go_ret2;exact⟨by rw[HZ.o];exact d.o.below,.inl ⟨U.o,rfl⟩⟩
        | true=>
         have k2:w5.cell? ⟨a,2,QK⟩=QJ (QY QU dst):=QX v.o 2;go_wp2_with fail;refine (fa.o _ d.o.nset).mono ?_;rintro e w6 ⟨rfl,G⟩;rw[cv.o];have P:=q_ (d.o.on G);have bh:=q_ ((G.block a (b_ v.o)).trans v.o);have cu:=q_ (ag.o.trans (G.mono (by have:=d.o.set.lt;have:=a2.o;omega)));clear G k2
         cases db with
         | false=>
          have U:=q_ (HN.o rfl);go_wp2_with fail;go_ret2;exact⟨by rw[HZ.o];exact P.o.below,.inl ⟨U.o,rfl⟩⟩
         | true=>
          have k3:w6.cell? ⟨a,3,QK⟩=QJ (QZ I):=QX bh.o 3;have k4:w6.cell? ⟨a,4,QK⟩=QJ (QQ A2 m2 c2):=QX bh.o 4;go_wp2_with fail;refine (et.o _).mono ?_;rintro e fm ⟨rfl,ff⟩;subst ff
          cases tb with
          | false=>
           have U:=q_ (HN.o rfl);go_wp2_with fail;go_ret2;exact⟨by rw[HZ.o];exact P.o.below,.inl ⟨U.o,rfl⟩⟩
          | true=>
           have bz:=q_ (td_ x.props O.o.1.2.2 O.o.1.2.1 F A2 m2 c2 fm (λb hb=>by have:=V.o b hb;have:=P.o.set.lt;have:=a2.o;omega) (bs.o.under PaR.good cu.o (λb hb=>V.o b hb)) (Hn_ HG.o HZ.o P.o.below));rw[a9.o]at bz;go_wp2_with fail;refine bz.o.mono ?_;rintro e w5 ⟨rfl,R⟩;clear d v ag;have d:=q_ (P.o.on R);have v:=q_ ((R.block a (b_ bh.o)).trans bh.o);have ag:=q_ (cu.o.trans (R.mono (by have:=P.o.set.lt;have:=a2.o;omega)));clear R k3 k4
           cases pb with
           | false=>
            have U:=q_ (HN.o rfl);go_wp2_with fail;go_ret2;exact⟨by rw[HZ.o];exact d.o.below,.inl ⟨U.o,rfl⟩⟩
           | true=>
            have dd:=q_ (HY.o rfl);have j:es.length=k:=by rw[<-d.o.all.1,UJ,au.o];omega
            have c8:=q_ j;obtain⟨A3,c3,h3⟩:=d.o.own.form;rw[j]at h3;subst h3;have dj:=q_ (wq_ x O.o.1 (gi_ a9.o) F _ w5.drew (λb hb=>by have:=V.o b hb;have:=d.o.set.lt;have:=a2.o;show b<w5.heap.size;omega) (EdR.good.keep L.o (w':=w5.drew) (λp hp=>ag.o.cell (V.o _ hp))));obtain⟨cs,a6,aw,az,hr⟩:=d.o.own;rw[j]at a6 aw;have ca:=q_ a6;have ai:=q_ (show ∀b,(Value.slice A3 k c3).ownBlock=some b->z2+1<=b/\b<w5.heap.size from az);have aa:=q_ (And.intro aw hr);have fn:z+6<=z2:=a2.o;have g0:w5.drew.cell? ⟨z+4,1,none⟩=some (QQ A3 k c3):=QX d.o.store 1;have n0:w5.drew.cell? ⟨a,0,none⟩=some (QY QU id):=QX v.o 0;have n1:w5.drew.cell? ⟨a,1,none⟩=some (QY QU src):=QX v.o 1;have n2:w5.drew.cell? ⟨a,2,none⟩=some (QY QU dst):=QX v.o 2;have n3:w5.drew.cell? ⟨a,3,none⟩=some (QZ I):=QX v.o 3;have n4:w5.drew.cell? ⟨a,4,none⟩=some (QQ A2 m2 c2):=QX v.o 4;clear j a6 aw az hr;obtain⟨i0,di,cg,ch,ci⟩:=info_parts qi_;go_upto_region 20 with fail;go_region_law (first | (refine step_append_lies _ rfl _ _ 52 rfl 0 74 i0 (.agg #[QY QU 0,QY QU 0,QY QU 0,QZ ⟨#[]⟩,QQ none 0 0]) 5 64 underlying52 di cg ch ci rfl (by decide) (QQ A3 k c3) k (R_ cs k) rfl (by exact bj.o.alloc _) ⟨w6.heap.size,0,none⟩ 1 1 [QY QU id,QY QU src,QY QU dst,QZ I,QQ B6 r6 N] rfl rfl (World.news_of_block (cs:=#[QY QU id,QY QU src,QY QU dst,QZ I,QQ B6 r6 N]) (by exact NB.o)) c9.o (by omega) (by unfold maxLen;omega) (by omega) (Nat.zero_le _) (w6.heap.size+1) (by exact d8.o) (λg7 c7 w7 bx Z bw _=>?_);have d6:=q_ bx;have bq:=q_ (show w6.grownBy w7 (Value.slice A3 k c3).ownBlock from ak_ (w:=w6) (o:=XX #[QY QU id,QY QU src,QY QU dst,QZ I,QQ B6 r6 N] 74) ⟨Z.os,Z.tape,Z.output,Z.size,Z.block⟩);have cx:=q_ (show (Value.slice A3 k c3).ownBlock=some g7\/g7=w6.heap.size+1 from bw);have bp:=q_ ((bq.o.block (z+4) (by have:=ap.o;omega) (λe=>by have:=ai.o (z+4) e.symm;omega)).trans ao.o);have f7:w7.frozen? ⟨z+4,1,none⟩=false:=YY bp.o 1;have f4:w7.cell? ⟨z+4,1,none⟩=some (QQ A3 k c3):=QX bp.o 1;clear bx Z bw) | (go_simp;go_at_call 93;(with_reducible refine dj.o.mono ?_);rintro e w6 ⟨cc,n',rfl,G,C,b5⟩;have aj:=q_ b5;obtain⟨P6,rfl,B6,N,rfl,_,_⟩:=b5;obtain⟨r6,de⟩:=a_ n'.props.length;rw[de.o]at aj ⊢;rw[C.1,C.2.1,C.2.2.1,C.2.2.2.1,f.o,a1.o,a0.o,ah.o]at aj ⊢;have ct:=q_ G;have am:=q_ C;have ap:=q_ (show z2<w6.heap.size from by have h1:w5.heap.size<=w6.heap.size:=G.size;have:=d.o.set.lt;omega);have bj:=q_ ((Turn.of_below G).owns ca.o (λg hg h=>by have:=ai.o g hg;have h2:w5.heap.size<=g:=h;omega));have ao:=q_ ((G.block (z+4) (by show z+4<w5.heap.size;have:=d.o.set.lt;omega)).trans d.o.store);have df:w6.cell? ⟨z+4,1,none⟩=some (QQ A3 k c3):=QX ao.o 1;have f3:(w6.alloc (XX #[QY QU id,QY QU src,QY QU dst,QZ I,QQ B6 r6 N] 74)).cell? ⟨z+4,1,none⟩=some (QQ A3 k c3):=(World.cell?_alloc_lt w6 _ _ (by show z+4<_;have:=ap.o;omega)).trans df;have c9:=q_ (show ∀u∈([QY QU id,QY QU src,QY QU dst,QZ I,QQ B6 r6 N]:List XJ),u.oneCell'=true from λu hu=>by simp at hu;rcases hu with rfl | rfl | rfl | rfl | rfl<;>rfl);have NB:=q_ (XU w6 (XX #[QY QU id,QY QU src,QY QU dst,QZ I,QQ B6 r6 N] 74));have d8:=q_ (show (w6.alloc (XX #[QY QU id,QY QU src,QY QU dst,QZ I,QQ B6 r6 N] 74)).heap.size=w6.heap.size+1 by simp);clear G C))
            all_goals (
             have w1:IntKind.i64.wrap ((k:Int)+1)=(k:Int)+1:=YU _ (by omega);go_wp2_with fail;go_roundw)
            all_goals first
             | (case measure=>simp[intOf];omega)
             | (case rel=>
                 refine⟨k+1,es++[n'],QQ (QJ ⟨g7,0,QK⟩) (k+1) c7,by omega,by go_num,q_ ?_⟩;have h:=f8_.more d.o c8.o ai.o aa.o.1 aa.o.2 HX.o (b2_ ct.o) am.o aj.o rfl bq.o cx.o d6.o dd.o;have e1:f3_ ((g.edges.take k).map l_.id) id=(g.edges.take (k+1)).map l_.id:=by unfold f3_;rw[a7.o,iN_ (by decide),f_ HX.o,List.map_append,<-f.o];rfl
                 rw[e1]at h;exact h)
     ·have ac:k=nE:=by omega
      have cf:=q_ (show g.edges.take k=g.edges from YJ (by rw[au.o,ac];exact XK _));have E:=D.o;have dk:=q_ (show aj_ (okE (g.nodes.map i_.id)) l_.id [] g.edges=true from by have h:=E.ok;rw[cf.o]at h;exact h);have bk:=q_ (show b1_ ka_ g.edges es from by have h:=E.all;rw[cf.o]at h;exact h);rw[cf.o]at E;have b2:=q_ E;have ey:ns.length<=100000000:=by rw[<-bl.o.1,av.o];omega
      have ex:es.length<=100000000:=by rw[<-bk.o.1,au.o];omega
      have C:=q_ (u0_ E.nodes ey (λb hb=>by have:=E.set.lt;omega));have fi:wr.cell? ⟨z+4,0,QK⟩=QJ Ns:=QX E.store 0;clear E D;subst ac;go_upto_region 22 with fail;go_wp2_with fail;refine C.o.mono ?_;rintro e w4 ⟨rfl,Y,b6,ec,y⟩;have cn:=q_ b6;have d5:=q_ ec;have aq:=q_ y;have ak:=q_ (show ∀b,Ns.ownBlock=QJ b->z+6<=b/\b<z2 from λb hb=>by obtain⟨cs,_,_,az,_⟩:=b2.o.nodes;exact az b hb);have fj:w4.cell? ⟨z+4,1,QK⟩=QJ Es:=QX ((y.block (z+4) (by have:=b2.o.set.lt;have:=b2.o.far;omega) (λr=>by have:=(ak.o _ r).1;omega)).trans b2.o.store) 1;have dm:=q_ (Ew_ ((b2.o.own.turn EdR.good y (λb hb=>hb.2) (λb hb r=>by have:=(ak.o _ r).2;omega)).mono EdR.good (F':=λb=>z2+1<=b/\b<w4.heap.size) (λb hb=>⟨hb.1,XZ hb.2 y.size⟩)) ex (λb hb=>hb.2));clear b6 ec y fi C;go_wp2_with fail;refine dm.o.mono ?_;rintro e w5 ⟨rfl,J,b6,eb,bd⟩;have e7:=q_ b6;have bt:=q_ (b2.o.next d5.o aq.o eb bd);have dw:=q_ (E4_ bg.o dl.o bl.o cn.o.1);have dv:=q_ (E3_ bg.o dk.o bk.o b6.1);have fd:Y.length<=131072:=by rw[cn.o.1.length_eq,<-bl.o.1,av.o];omega
      have fe:J.length<=65536:=by rw[b6.1.length_eq,<-bk.o.1,au.o];omega
      clear b6 eb bd fj dm;obtain⟨n5,bu⟩:=a_ Y.length;obtain⟨n6,ar⟩:=a_ J.length;rw[bu.o]at fd;rw[ar.o]at fe;obtain⟨a4,ew⟩:=a_ w5.heap.size;rw[ew.o]at bt;obtain⟨A5,c5,f5⟩:∃A5 c5,Ns = QQ A5 n5 c5:=by obtain⟨A,c,h,_⟩:=d5.o;exact⟨A,c,by rw[h,bu.o]⟩
      obtain⟨A6,c6,f6⟩:∃A6 c6,Es = QQ A6 n6 c6:=by obtain⟨A,c,h,_⟩:=bt.o.edges;exact⟨A,c,by rw[h,ar.o]⟩
      subst f5 f6;have fk:w5.cell? ⟨z+4,0,QK⟩=QJ (QQ A5 n5 c5):=QX bt.o.store 0;clear b2 ak aq d5;go_wp2_with fail;clear fk;go_loopw [153] (λcj wx=>∃k:Nat,k<=n5/\cj = QY QU (k:Nat)/\Q_ (ee_ w z a4 Y J (QQ A5 n5 c5) (QQ A6 n6 c6) ((Y.take k).map i_.id) [] 0 (ew_ []) wx)) (λcj _=>n5-(intOf cj).toNat)
      case atStart=>exact⟨0,by omega,rfl,bt⟩
      case round=>
       clear bt;obtain⟨k,hk,rfl,D⟩:=hrel;by_cases b4:k<n5
       ·obtain⟨x,r⟩:∃x,Y[k]?=QJ x:=⟨Y[k]'(by rw[bu.o];exact b4),XQ _⟩;have HX:=q_ r;obtain⟨ad,A1,d1,A2,d2,rfl,ay,cp,cq,ae,q0,q1,q2⟩:=jk_ D.o.nodes.rd r;clear ay cp cq ae;obtain⟨id,f⟩:=a_ x.id;obtain⟨m1,ba⟩:=a_ x.labels.length;obtain⟨m2,ab⟩:=a_ x.props.length;rw[f.o]at q0;rw[ba.o]at q1;rw[ab.o]at q2;obtain⟨a,q⟩:=a_ wr.heap.size;obtain⟨w2,M⟩:=a_ (wr.alloc (XX #[QY QU id,QQ A1 m1 d1,QQ A2 m2 d2] 72));have X:=q_ (D.o.on (w2:=w2.drew) (by rw[<-M.o];exact ((XV _ _).alloc (XK _) _).drew));have b0:w2.drew.cell? ⟨a,0,QK⟩=QJ (QY QU id):=QX (w:=w2.drew) (show w2.heap[a]?=QJ (XX #[QY QU id,QQ A1 m1 d1,QQ A2 m2 d2] 72 (0,0)) from by rw[<-M.o,<-q.o];exact XU wr _) 0;have g4:w2.drew.cell? ⟨z+4,4,QK⟩=QJ (.map (QJ (z+3))):=QX X.o.store 4;obtain⟨w3,bo,b3,S⟩:=X.o.at_.more (x:=id) (by rw[<-f.o];exact dw.o.2 x (YZ r)) (by rw[<-f.o];exact rg_ dw.o.1 r) (by simp;omega);rw[show ((Y.take k).map i_.id).length=k by rw[List.length_map,UJ,bu.o];omega]at bo;have t:=q_ (X.o.upd (ids':=(Y.take (k+1)).map i_.id) S (λb hb=>.inl ⟨by omega,by omega⟩) (by rw[f_ r,List.map_append];show a4_ w3 (z+3) (_++[x.id]);rw[f.o];exact b3) (X.o.types.turn S (λh=>by omega)) (X.o.hops.turn S (λh=>by omega) (λb hb h=>by have:=X.o.loc.1;omega)));clear b3 S r;have e1:(0:Int)<=k:=by omega
        have e2:(k:Int)<n5:=by omega
        have w1:IntKind.i64.wrap ((k:Int)+1)=(k:Int)+1:=YU _ (by omega);go_upto_region 27 with fail;rw[q.o,M.o];go_region
        all_goals (go_wp2_with fail;go_roundw)
        all_goals first
         | (case measure=>simp[intOf];omega)
         | (case rel=>exact⟨k+1,by omega,by go_num,t⟩)
       ·have ac:n5=k:=by omega
        have cw:=q_ (show ee_ w z a4 Y J (QQ A5 n5 c5) (QQ A6 n6 c6) (Y.map i_.id) [] 0 (ew_ []) wr from by have h:=D.o;rw[YJ (by rw[bu.o];omega)]at h;exact h);clear D;subst ac;have fl:wr.cell? ⟨z+4,1,QK⟩=QJ (QQ A6 n6 c6):=QX cw.o.store 1;go_upto_region 29 with fail;go_wp2_with fail;clear fl;go_loopw [171] (λck wx=>∃(k n:Nat),k<=n6/\n<=4*k/\ck = QY QU (k:Nat)/\Q_ (ee_ w z a4 Y J (QQ A5 n5 c5) (QQ A6 n6 c6) (Y.map i_.id) ((J.take k).map l_.id) n (ew_ (J.take k)) wx)) (λck _=>n6-(intOf ck).toNat)
        case atStart=>exact⟨0,0,by omega,by omega,rfl,cw⟩
        case round=>
         clear cw;obtain⟨k,n,hk,fs,rfl,D⟩:=hrel;by_cases b4:k<n6
         ·obtain⟨x,r⟩:∃x,J[k]?=QJ x:=⟨J[k]'(by rw[ar.o];exact b4),XQ _⟩;have HX:=q_ r;obtain⟨dr,cr,dq⟩:=dv.o.2 x (YZ r);obtain⟨ad,A2,d2,rfl,ay,co,ae,q0,q1,q2,q3,q4⟩:=jf_ D.o.edges.rd r;clear ay co ae;obtain⟨id,f⟩:=a_ x.id;obtain⟨src,a1⟩:=a_ x.src;obtain⟨dst,a0⟩:=a_ x.dst;obtain⟨I,ah⟩:=a_ x.type;obtain⟨m2,ab⟩:=a_ x.props.length;rw[f.o]at q0 dr;rw[a1.o]at q1 cr;rw[a0.o]at q2 dq;rw[ah.o]at q3;rw[ab.o]at q4;have f1:=q_ cr;have e8:=q_ dq;obtain⟨a,q⟩:=a_ wr.heap.size;obtain⟨w2,M⟩:=a_ (wr.alloc (XX #[QY QU id,QY QU src,QY QU dst,QZ I,QQ A2 m2 d2] 74));have X:=q_ (D.o.on (w2:=w2.drew) (by rw[<-M.o];exact ((XV _ _).alloc (XK _) _).drew));have br:=q_ (show w2.drew.heap[a]?=QJ (XX #[QY QU id,QY QU src,QY QU dst,QZ I,QQ A2 m2 d2] 74 (0,0)) from by rw[<-M.o,<-q.o];exact XU wr _);have b0:w2.drew.cell? ⟨a,0,QK⟩=QJ (QY QU id):=QX br.o 0;have g3:w2.drew.cell? ⟨z+4,3,QK⟩=QJ (.map (QJ (z+2))):=QX X.o.store 3;have bi:=q_ (show z+6<=a4/\a4<=a from by rw[<-q.o];exact D.o.loc);obtain⟨w3,bo,b3,S⟩:=X.o.types.more (x:=id) dr (by rw[<-f.o];exact rg_ dv.o.1 r) (by simp;omega);rw[show ((J.take k).map l_.id).length=k by rw[List.length_map,UJ,ar.o];omega]at bo;have t:=q_ (X.o.upd (eids':=(J.take (k+1)).map l_.id) S (λb hb=>.inl ⟨by omega,by omega⟩) (X.o.at_.turn S (λh=>by omega)) (by rw[f_ r,List.map_append];show a4_ w3 (z+2) (_++[x.id]);rw[f.o];exact b3) (X.o.hops.turn S (λh=>by omega) (λb hb h=>by have:=X.o.loc.1;omega)));have dx:=q_ ((S.block a (b_ br.o) (by have:=bi.o;omega)).trans br.o);have n1:w3.cell? ⟨a,1,QK⟩=QJ (QY QU src):=QX dx.o 1;have en:=q_ (js_ (z+4) a4 (z+1) n (ew_ (J.take k)) src 1 k _ _ _ _ w3 t.o.store t.o.hops cr vi1 (by omega) (by omega) t.o.loc.2);clear b3 S r dr cr dq;have e1:(0:Int)<=k:=by omega
          have e2:(k:Int)<n6:=by omega
          have w1:IntKind.i64.wrap ((k:Int)+1)=(k:Int)+1:=YU _ (by omega);go_upto_region 32 with fail;rw[q.o,M.o];clear q0 q1 q2 q3 q4;go_region
          all_goals go_wp2_with fail
          all_goals refine en.o.mono ?_
          all_goals rintro e w4 ⟨rfl,ee,y⟩
          all_goals (
           have a8:=q_ (t.o.spoke ee y);have dy:=q_ (pz_ dx.o (by have:=bi.o;omega) y);have n2:w4.cell? ⟨a,2,none⟩=some (QY QU dst):=QX dy.o 2;have eo:=q_ (js_ (z+4) a4 (z+1) (n+1) _ dst (-1) k _ _ _ _ w4 a8.o.store a8.o.hops e8.o vim (by omega) (by omega) a8.o.loc.2);clear ee y n1 en;go_wp2_with fail;refine eo.o.mono ?_;rintro e w5 ⟨rfl,ef,bd⟩;have d:=q_ (a8.o.spoke ef bd);have dz:=q_ (pz_ dy.o (by have:=bi.o;omega) bd);have n3:w5.cell? ⟨a,1,none⟩=some (QY QU src):=QX dz.o 1;have ep:=q_ (js_ (z+4) a4 (z+1) (n+1+1) _ src 0 k _ _ _ _ w5 d.o.store d.o.hops f1.o vi0 (by omega) (by omega) d.o.loc.2);clear ef bd n2 eo;go_wp2_with fail;refine ep.o.mono ?_;rintro e w6 ⟨rfl,eg,dn⟩;have P:=q_ (d.o.spoke eg dn);have e0:=q_ (pz_ dz.o (by have:=bi.o;omega) dn);have n4:w6.cell? ⟨a,1,none⟩=some (QY QU src):=QX e0.o 1;have fh:w6.cell? ⟨a,2,none⟩=some (QY QU dst):=QX e0.o 2;clear eg dn n3 ep;by_cases bb:dst=src
           ·have q5:(dst != src)=false:=by rw[bb];exact bne_self_eq_false src
            have cz:=q_ (show ee_ w z a4 Y J (QQ A5 n5 c5) (QQ (QJ ad) n6 c6) (Y.map i_.id) ((J.take (k+1)).map l_.id) (n+1+1+1) (ew_ (J.take (k+1))) w6 from by rw[f_ HX.o,sr_,a1.o,a0.o,iP_ bb,UJ,ar.o,Nat.min_eq_left hk,<-f_ HX.o];exact P.o);clear bb P;go_wp2_with fail;exact⟨⟨k+1,n+1+1+1,by omega,by omega,by go_num,cz⟩,by simp[intOf];omega⟩
           ·have q5:(dst != src)=true:=bne_iff_ne.2 bb;have eq:=q_ (js_ (z+4) a4 (z+1) (n+1+1+1) _ dst 0 k _ _ _ _ w6 P.o.store P.o.hops e8.o vi0 (by omega) (by omega) P.o.loc.2);go_wp2_with fail;refine eq.o.mono ?_;rintro e w7 ⟨rfl,eh,er⟩;have cz:=q_ (show ee_ w z a4 Y J (QQ A5 n5 c5) (QQ (QJ ad) n6 c6) (Y.map i_.id) ((J.take (k+1)).map l_.id) (n+1+1+1+1) (ew_ (J.take (k+1))) w7 from by rw[f_ HX.o,sr_,a1.o,a0.o,iN_ bb,UJ,ar.o,Nat.min_eq_left hk,<-f_ HX.o];exact P.o.spoke eh er);clear bb P eh er n4 fh eq;go_wp2_with fail;exact⟨⟨k+1,n+1+1+1+1,by omega,by omega,by go_num,cz⟩,by simp[intOf];omega⟩)
         ·have ac:n6=k:=by omega
          have e4:=q_ (show ee_ w z a4 Y J (QQ A5 n5 c5) (QQ A6 n6 c6) (Y.map i_.id) (J.map l_.id) n (ew_ J) wr from by have h:=D.o;rw[YJ (by rw[ar.o];omega)]at h;exact h);clear D;subst ac;have eu:=q_ (show dn_ g=true from by rw[cd.o,dl.o,dk.o];rfl);have am:=q_ (show jw_ g ⟨Y,J⟩ from ⟨⟨ns,bl.o,cn.o.1,cn.o.2⟩,⟨es,bk.o,e7.o.1,e7.o.2⟩⟩);go_upto_region 39 with fail;go_wp2_with fail;go_ret2;exact⟨by rw[HZ.o];exact e4.o.below,.inr ⟨eu.o,z+4,⟨Y,J⟩,rfl,by rw[HZ.o];exact e4.o.done (by omega),am.o⟩⟩
 ·have em:=q_ (show dn_ g=false from by rw[cd.o,dF_ j];rfl);have HB:=q_ (show XW w.heap.size w (w.alloc (XX #[QQ AN nN cN,QQ AE nE cE] 54)) from (XV _ _).alloc (XK _) _);by_cases h1:nN<=131072
  ·have e1:decide ((131072:Int)<nN)=false:=dF_ (by omega);have e2:decide ((65536:Int)<nE)=true:=dT_ (by omega);clear j h1;go_enter func32,ntmps32
   go_wp2_with fail;go_ret2;exact⟨HB.o,.inl ⟨em.o,rfl⟩⟩
  ·have e1:decide ((131072:Int)<nN)=true:=dT_ (by omega);clear j h1;go_enter func32,ntmps32
   go_wp2_with fail;go_ret2;exact⟨HB.o,.inl ⟨em.o,rfl⟩⟩
end
section
open Go Go.RowKit Go.Maps Go.WideMaps
end
section
open Go Go.RowKit
theorem Au_ {l:List J_}:∀{ks:List ByteArray},bd_ ks l=true->(∀p,p∈l->a6_ p.key=true/\p.key∉ks)/\(∀p q,p∈l->q∈l->p.key=q.key->p=q):=by
 induction l with
 | nil=>intro ks _;exact⟨λp a=>(List.not_mem_nil a).elim,λp q a=>(List.not_mem_nil a).elim⟩
 | cons x r t=>
  intro ks h;simp only[bd_,YW]at h;obtain⟨⟨h1,h2,u⟩,n⟩:=h;obtain⟨c,s⟩:=t n;have o:x.key∉ks:=λg=>by rw[gh_ g]at h2;cases h2
  constructor
  ·intro p a;rcases List.mem_cons.1 a with rfl | a
   ·exact⟨h1,o⟩
   ·exact⟨(c p a).1,λg=>(c p a).2 (List.mem_append_left _ g)⟩
  ·intro p q a k e;rcases List.mem_cons.1 a with j | d
   ·rcases List.mem_cons.1 k with f | b
    ·rw[j,f]
    ·exact absurd (List.mem_append_right ks (List.mem_singleton.2 (by rw[<-e,j]))) (c q b).2
   ·rcases List.mem_cons.1 k with f | b
    ·exact absurd (List.mem_append_right ks (List.mem_singleton.2 (by rw[e,f]))) (c p d).2
    ·exact s p q d b e
theorem hu_ {l:List J_} (h:bc_ l=true):(∀p,p∈l->a6_ p.key=true)/\(∀p q,p∈l->q∈l->p.key=q.key->p=q):=by unfold bc_ at h;rw[YW]at h;have:=Au_ h.1;exact⟨λp a=>(this.1 p a).1,this.2⟩
theorem D5_ {g : Type} {key:g -> Int} {l:List g} (c:(l.map key).Nodup) {x y:g} (j:x∈l) (k:y∈l) (e:key x=key y):x=y:=by
 induction l with
 | nil=>cases j
 | cons a r n=>
  rw[List.map_cons,List.nodup_cons]at c;rcases List.mem_cons.1 j with h | d
  ·rcases List.mem_cons.1 k with f | b
   ·rw[h,f]
   ·exact absurd (List.mem_map.2 ⟨y,b,by rw[<-e,h]⟩) c.1
  ·rcases List.mem_cons.1 k with f | b
   ·exact absurd (List.mem_map.2 ⟨x,d,by rw[e,f]⟩) c.1
   ·exact n c.2 d b
theorem g5_ {g:D_} (a:dn_ g=true):aj_ okN i_.id [] g.nodes=true/\aj_ (okE (g.nodes.map i_.id)) l_.id [] g.edges=true:=by unfold dn_ at a;rw[YW,YW]at a;exact a.2
theorem qr_ {g:D_} (a:dn_ g=true) {n:i_} (b:n∈g.nodes):bc_ n.props=true/\(bo_ [] n.labels=true/\n.labels.length<=65536):=by obtain⟨i,hi⟩:=List.mem_iff_getElem?.1 b;have h:=yp_ (g5_ a).1 hi;unfold okN at h;simp only[YW]at h;exact⟨h.2.2.2.2,h.2.2.1,of_decide_eq_true h.2.2.2.1⟩
theorem qp_ {g:D_} (b:dn_ g=true) {e:l_} (a:e∈g.edges):bc_ e.props=true:=by obtain⟨i,hi⟩:=List.mem_iff_getElem?.1 a;have h:=yp_ (g5_ b).2 hi;unfold okE at h;simp only[YW]at h;exact h.2.2.2.2.2
theorem qs_ {g:D_} (a:dn_ g=true):(g.nodes.map i_.id).Nodup:=hz_ (λ_ _ h=>B9_ h) List.nodup_nil (g5_ a).1
theorem Ag_ {g:D_} (a:dn_ g=true):(g.edges.map l_.id).Nodup:=hz_ (λ_ _ h=>B8_ h) List.nodup_nil (g5_ a).2
theorem f0_ {c a : Type} {R:c -> a -> Prop} {l:List c} {m b:List a} (h:b1_ R l m) (d:b.Perm m) {y:a} (e:y∈b):∃x,x∈l/\R x y:=h.mem (d.mem_iff.1 e)
theorem F6_ {a d : Type} {R:a -> d -> Prop} {l:List a} {m c:List d} (h:b1_ R l m) (f:c.Perm m) {x:a} (g:x∈l):∃y,y∈c/\R x y:=by
 obtain⟨i,hi⟩:=List.mem_iff_getElem?.1 g;have e:i<m.length:=by rw[<-h.1];exact c3_ hi
 have b:=XQ e;exact⟨_,f.mem_iff.2 (YZ b),h.2 i x _ hi b⟩
theorem L6_ {g b:D_} (a:j3_ g) (e:jw_ g b):b.nodes.length<=2000000/\b.edges.length<=2000000:=by obtain⟨⟨m,h1,h2,_⟩,⟨f,c,d,_⟩⟩:=e;exact⟨by rw[h2.length_eq,<-h1.1];exact a.1,by rw[d.length_eq,<-c.1];exact a.2.1⟩
theorem jl_ {a b:ByteArray} (h1:¬id_ a b<0) (h2:¬id_ b a<0):a=b:=by rw[l4_]at h1 h2;have c:a.data.toList=b.data.toList:=List.le_antisymm (List.not_lt.1 h2) (List.not_lt.1 h1);exact ByteArray.ext (Array.toList_inj.1 c)
theorem E2_ {l c:List ByteArray} (d:l.Pairwise (λa b=>¬id_ b a<0)) (h:F3_ l c):c=l:=
 List.Perm.eq_of_pairwise (le:=λa b=>¬id_ b a<0) (λ_ _ _ _ h1 h2=>jl_ h2 h1) h.2 d h.1
theorem tu_ {l c:List J_} (e:∀p q,p∈l->q∈l->p.key=q.key->p=q) (f:l.Pairwise (λa b=>¬id_ b.key a.key<0)) (h:zj_ l c):c=l:=
 List.Perm.eq_of_pairwise (le:=λa b=>¬id_ b.key a.key<0) (λa b d hb h1 h2=>e a b (h.1.mem_iff.1 d) hb (jl_ h2 h1)) h.2 f h.1
theorem D9_ {a b:Int} (h1:¬ed_ a b<0) (h2:¬ed_ b a<0):a=b:=by rw[l3_]at h1 h2;omega
theorem ta_ {e : Type} {key:e -> Int} {l c:List e} (g:(l.map key).Nodup) (j:l.Pairwise (λa b=>¬ed_ (key b) (key a)<0)) (d:c.Perm l) (h:c.Pairwise (λa b=>¬ed_ (key b) (key a)<0)):c=l:=
 List.Perm.eq_of_pairwise (le:=λa b=>¬ed_ (key b) (key a)<0) (λ_ _ f hb h1 h2=>D5_ g (d.mem_iff.1 f) hb (D9_ h2 h1)) h j d
theorem Bj_ {a : Type} {R:a -> a -> Prop} {l m:List a} (h:b1_ R l m) (b:∀x y,x∈l->R x y->y=x):m=l:=by
 apply List.ext_getElem?;intro i
 cases hx:l[i]? with
 | none=>
  have h2:m[i]?=QK:=by rw[List.getElem?_eq_none_iff]at hx ⊢;rw[<-h.1];exact hx
  exact h2
 | some x=>
  have c:i<m.length:=by rw[<-h.1];exact c3_ hx
  have h2:=XQ c;rw[h2,b x _ (YZ hx) (h.2 i x _ hx h2)]
theorem sb_ {g f:D_} (s:dn_ g=true) (u:jw_ g f) {n b:i_} (t:n∈f.nodes) (h:kb_ n b):b=n:=by obtain⟨⟨m,h1,h2,_⟩,_⟩:=u;obtain⟨x,v,a⟩:=f0_ h1 h2 t;have j:n.props.Perm x.props:=a.2.2.1;have c:=E2_ a.2.1.2 h.2.1;have d:=tu_ (λp q k o e=>(hu_ (qr_ s v).1).2 p q (j.mem_iff.1 k) (j.mem_iff.1 o) e) a.2.2.2 h.2.2;obtain⟨i,L,P⟩:=n;obtain⟨y,z,A⟩:=b;have r:y=i:=h.1;subst r;simp only at c d;rw[c,d]
theorem sa_ {g c:D_} (A:dn_ g=true) (C:jw_ g c) {n a:l_} (B:n∈c.edges) (h:ka_ n a):a=n:=by obtain⟨_,⟨m,h1,h2,_⟩⟩:=C;obtain⟨x,D,o⟩:=f0_ h1 h2 B;have f:n.props.Perm x.props:=o.2.2.2.2.1;have b:=tu_ (λp q j k e=>(hu_ (qp_ A D)).2 p q (f.mem_iff.1 j) (f.mem_iff.1 k) e) o.2.2.2.2.2 h.2.2.2.2;obtain⟨i,s,d,t,P⟩:=n;obtain⟨E,F,r,G,I⟩:=a;have u:E=i:=h.1;have v:F=s:=h.2.1;have y:r=d:=h.2.2.1;have z:G=t:=h.2.2.2.1;subst u v y z;simp only at b;rw[b]
theorem Ar_ {g a:D_} (e:dn_ g=true) (f:jw_ g a) {h:List i_} {d:List l_} (h1:b1_ kb_ a.nodes h) (h2:b1_ ka_ a.edges d):(⟨h,d⟩:D_)=a:=by rw[Bj_ h1 (λx y c b=>sb_ e f c b),Bj_ h2 (λx y c b=>sa_ e f c b)]
theorem f2_ {d K:Type} [DecidableEq K] {f:List K -> d -> Bool} {key:d -> K} {c:d -> Prop} (e:∀ks x,f ks x=true↔(key x∉ks/\c x)) {l:List d}:∀{ks:List K},aj_ f key ks l=true↔((∀x,x∈l->c x/\key x∉ks)/\(l.map key).Nodup):=by
 induction l with
 | nil=>intro ks;simp[aj_]
 | cons x r j=>
  intro ks;simp only[aj_,YW,e,j,List.map_cons,List.nodup_cons,List.mem_cons,List.mem_append,List.mem_map];constructor
  ·rintro⟨⟨h1,h2⟩,b,g⟩;refine⟨λy a=>?_,fun⟨y,a,he⟩=>?_,g⟩
   ·rcases a with rfl | a
    ·exact⟨h2,h1⟩
    ·exact⟨(b y a).1,λh=>(b y a).2 (.inl h)⟩
   ·exact (b y a).2 (.inr (.inl he))
  ·rintro⟨h1,h2,b⟩;refine⟨⟨(h1 x (.inl rfl)).2,(h1 x (.inl rfl)).1⟩,λy a=>⟨(h1 y (.inr a)).1,λh=>?_⟩,b⟩;rcases h with h | h
   ·exact (h1 y (.inr a)).2 h
   ·rcases h with h | h
    ·exact h2 ⟨y,a,h⟩
    ·cases h
theorem tm_ {a K:Type} [DecidableEq K] {b:List K -> a -> Bool} {key:a -> K} {c:a -> Prop} (d:∀ks x,b ks x=true↔(key x∉ks/\c x)) {l m:List a} (e:m.Perm l) (h:aj_ b key [] l=true):aj_ b key [] m=true:=by rw[f2_ d]at h ⊢;exact⟨λx f=>h.1 x (e.mem_iff.1 f),((e.map key).nodup_iff).2 h.2⟩
theorem Dy_ (l:List ByteArray):∀ks,bo_ ks l=aj_ (λks s=>a6_ s && !inB ks s) (λs=>s) ks l:=by
 induction l with
 | nil=>intro ks;rfl
 | cons x r a=>intro ks;simp only[bo_,aj_,a]
theorem q2_ (l:List J_):∀ks,bd_ ks l=aj_ (λks p=>a6_ p.key&&(!inB ks p.key&&bw_ p.v)) J_.key ks l:=by
 induction l with
 | nil=>intro ks;rfl
 | cons x r a=>intro ks;simp only[bd_,aj_,a]
theorem o6_ {K:Type} [DecidableEq K] {ks:List K} {x:K}:(!inB ks x)=true↔x∉ks:=by unfold inB;simp
theorem Dx_ {l m:List ByteArray} (a:m.Perm l) (h:bo_ [] l=true):bo_ [] m=true:=by rw[Dy_]at h ⊢;refine tm_ (c:=λs=>a6_ s=true) (λks s=>?_) a h;rw[YW,o6_];exact⟨λh=>⟨h.2,h.1⟩,λh=>⟨h.2,h.1⟩⟩
theorem q1_ {l m:List J_} (a:m.Perm l) (h:bc_ l=true):bc_ m=true:=by unfold bc_ at h ⊢;rw[YW]at h ⊢;refine⟨?_,by rw[a.length_eq];exact h.2⟩;rw[q2_]at ⊢;have h1:=h.1;rw[q2_]at h1;refine tm_ (c:=λp=>a6_ p.key=true/\bw_ p.v=true) (λks p=>?_) a h1;rw[YW,YW,o6_];exact⟨λh=>⟨h.2.1,h.1,h.2.2⟩,λh=>⟨h.2.1,h.1,h.2.2⟩⟩
theorem ve_ (ks:List Int) (n:i_):okN ks n=true↔(n.id∉ks/\(0<=n.id/\bo_ [] n.labels=true/\n.labels.length<=65536/\bc_ n.props=true)):=by unfold okN;rw[YW,YW,YW,YW,o6_,decide_eq_true_iff,decide_eq_true_iff];exact⟨λh=>⟨h.2.1,h.1,h.2.2.1,h.2.2.2.1,h.2.2.2.2⟩,λh=>⟨h.2.1,h.1,h.2.2.1,h.2.2.2.1,h.2.2.2.2⟩⟩
theorem vd_ (a ks:List Int) (e:l_):okE a ks e=true↔(e.id∉ks/\(0<=e.id/\e.src∈a/\e.dst∈a/\a6_ e.type=true/\bc_ e.props=true)):=by
 unfold okE;rw[YW,YW,YW,YW,YW,o6_,decide_eq_true_iff];have h1:inB a e.src=true↔e.src∈a:=by unfold inB;simp
 have h2:inB a e.dst=true↔e.dst∈a:=by unfold inB;simp
 rw[h1,h2];exact⟨λh=>⟨h.2.1,h.1,h.2.2.1,h.2.2.2.1,h.2.2.2.2.1,h.2.2.2.2.2⟩,λh=>⟨h.2.1,h.1,h.2.2.1,h.2.2.2.1,h.2.2.2.2.1,h.2.2.2.2.2⟩⟩
theorem o9_ {g p:D_} (e:dn_ g=true) (v:jw_ g p):dn_ p=true:=by
 obtain⟨t,s⟩:=g5_ e;have b:g.nodes.length<=131072/\g.edges.length<=65536:=by unfold dn_ at e;rw[YW]at e;exact of_decide_eq_true e.1
 obtain⟨⟨m,h1,h2,_⟩,⟨z,q,r,_⟩⟩:=v;rw[f2_ ve_]at t;rw[f2_ (vd_ _)]at s
 have j:∀i,i∈g.nodes.map i_.id->i∈p.nodes.map i_.id:=λi hi=>by
  obtain⟨x,c,rfl⟩:=List.mem_map.1 hi;obtain⟨y,d,a⟩:=F6_ h1 h2 c;exact List.mem_map.2 ⟨y,d,a.1⟩
 unfold dn_;rw[YW,YW,f2_ ve_,f2_ (vd_ _),decide_eq_true_iff];refine⟨⟨by rw[h2.length_eq,<-h1.1];exact b.1,by rw[r.length_eq,<-q.1];exact b.2⟩,⟨λy d=>?_,?_⟩,λy d=>?_,?_⟩
 ·obtain⟨x,c,a⟩:=f0_ h1 h2 d;obtain⟨k,n,o,c4⟩:=(t.1 x c).1;exact⟨⟨by rw[a.1];exact k,Dx_ a.2.1.1 n,by rw[a.2.1.1.length_eq];exact o,q1_ a.2.2.1 c4⟩,List.not_mem_nil⟩
 ·refine l9_ h2 ?_;rw[k9_ (R:=kb_) (f:=i_.id) (g:=i_.id) (λx y h=>h.1) h1];exact t.2
 ·obtain⟨x,c,a⟩:=f0_ q r d;obtain⟨k,n,o,c4,u⟩:=(s.1 x c).1;exact⟨⟨by rw[a.1];exact k,by rw[a.2.1];exact j _ n,by rw[a.2.2.1];exact j _ o,by rw[a.2.2.2.1];exact c4,q1_ a.2.2.2.2.1 u⟩,List.not_mem_nil⟩
 ·refine l9_ r ?_;rw[k9_ (R:=ka_) (f:=l_.id) (g:=l_.id) (λx y h=>h.1) q];exact s.2
theorem Jp_ {l a b:List ByteArray} (h1:F3_ l a) (h2:F3_ l b):a=b:=
 List.Perm.eq_of_pairwise (le:=λa b=>¬id_ b a<0) (λ_ _ _ _ h1 h2=>jl_ h2 h1) h1.2 h2.2 (h1.1.trans h2.1.symm)
theorem yx_ {l a b:List J_} (e:∀p q,p∈l->q∈l->p.key=q.key->p=q) (h1:zj_ l a) (h2:zj_ l b):a=b:=
 List.Perm.eq_of_pairwise (le:=λa b=>¬id_ b.key a.key<0) (λx y f g c d=>e x y (h1.1.mem_iff.1 f) (h2.1.mem_iff.1 g) (jl_ d c)) h1.2 h2.2 (h1.1.trans h2.1.symm)
theorem sh_ {e f : Type} {R:e -> f -> Prop} {l:List e} {a b:List f} (h1:b1_ R l a) (h2:b1_ R l b) (h:∀x y z,x∈l->R x y->R x z->y=z):a=b:=by
 apply List.ext_getElem?;intro i;rcases VZ i l.length with hi | hi
 ·have c:=XQ hi;have d:=XQ (show i<a.length by rw[<-h1.1];exact hi);have hb:=XQ (show i<b.length by rw[<-h2.1];exact hi);rw[d,hb,h _ _ _ (YZ c) (h1.2 i _ _ c d) (h2.2 i _ _ c hb)]
 ·rw[ZK (by rw[<-h1.1];exact hi),ZK (by rw[<-h2.1];exact hi)]
theorem Jo_ {g a b:D_} (k:dn_ g=true) (h1:jw_ g a) (h2:jw_ g b):a=b:=by
 have j:=o9_ k h1;obtain⟨⟨m1,A,B,C⟩,⟨k1,D,a5,E⟩⟩:=h1;obtain⟨⟨m2,F,G,I⟩,⟨k2,J,M,N⟩⟩:=h2
 have R:m1=m2:=sh_ A F λx y z r c hz=>by
  have h:=Jp_ c.2.1 hz.2.1;have f:=yx_ (λp q n o e=>(hu_ (qr_ k r).1).2 p q n o e) c.2.2 hz.2.2;obtain⟨i,L,P⟩:=y;obtain⟨u,L',v⟩:=z;have e0:i=u:=c.1.trans hz.1.symm;simp only at h f;rw[e0,h,f]
 have h:k1=k2:=sh_ D J λx y z r c hz=>by
  have f:=yx_ (λp q n o e=>(hu_ (qp_ k r)).2 p q n o e) c.2.2.2.2 hz.2.2.2.2;obtain⟨i,s,d,t,P⟩:=y;obtain⟨u,s',O,t',v⟩:=z;have V:i=u:=c.1.trans hz.1.symm;have W:s=s':=c.2.1.trans hz.2.1.symm;have X:d=O:=c.2.2.1.trans hz.2.2.1.symm;have Y:t=t':=c.2.2.2.1.trans hz.2.2.2.1.symm;simp only at f;rw[V,W,X,Y,f]
 subst R h;obtain⟨na,S⟩:=a;obtain⟨nb,U⟩:=b;have Z:na=nb:=(ta_ (key:=i_.id) (qs_ j) C (G.trans B.symm) I).symm;have g2:S=U:=(ta_ (key:=l_.id) (Ag_ j) E (M.trans a5.symm) N).symm;rw[Z,g2]
theorem uv_ {g t:D_} (b:j3_ g) (d:jw_ g t):j3_ t:=by
 have u:=L6_ b d;obtain⟨⟨m,h1,h2,_⟩,⟨D,z,A,_⟩⟩:=d;refine⟨u.1,u.2,λn C=>?_,λe B=>?_⟩
 ·obtain⟨x,r,a⟩:=f0_ h1 h2 C;obtain⟨⟨f,h,j,k⟩,o⟩:=b.2.2.1 x r;have v:n.labels.Perm x.labels:=a.2.1.1;have c:n.props.Perm x.props:=a.2.2.1;exact⟨⟨by rw[v.length_eq];exact f,by rw[c.length_eq];exact h,λs d=>j s (v.mem_iff.1 d),λp q=>k p (c.mem_iff.1 q)⟩,by rw[a.1];exact o⟩
 ·obtain⟨x,r,a⟩:=f0_ z A B;obtain⟨⟨f,h,j⟩,k,o,y⟩:=b.2.2.2 x r;have c:e.props.Perm x.props:=a.2.2.2.2.1;exact⟨⟨by rw[a.2.2.2.1];exact f,by rw[c.length_eq];exact h,λp q=>j p (c.mem_iff.1 q)⟩,by rw[a.1];exact k,by rw[a.2.1];exact o,by rw[a.2.2.1];exact y⟩
theorem w4_ {g:D_} (a:dn_ g=true):(∀n,n∈g.nodes->Fu_ n)/\∀e,e∈g.edges->Ft_ e:=
 ⟨λ_ c=>gi_ (qr_ a c).1,λ_ b=>gi_ (qp_ a b)⟩
theorem Jq_ {g a:D_} (d:jw_ g a):a.nodes.length=g.nodes.length/\a.edges.length=g.edges.length:=by obtain⟨⟨m,h1,h2,_⟩,⟨e,b,c,_⟩⟩:=d;exact⟨by rw[h2.length_eq,<-h1.1],by rw[c.length_eq,<-b.1]⟩
end
section
open Go Go.RowKit Go.Maps
abbrev CT:e_->Array XJ->Prop:=λt c=>dx_ c t
def ig_ (L:List e_) (w:QV) (e:Ending) (w':QV):Prop:=
 (¬(L.length<=65536/\L.all ch_=true)/\e = YQ (ZJ #[QQ QK 0 0,QY QU 20])/\XW w.heap.size w w') \/
 (L.length<=65536/\L.all ch_=true/\∃v,e = YQ (ZJ #[v,QY QU 0])/\x_ 41 18 TrR w' (λb=>w.heap.size<=b/\b<w'.heap.size) (an_ (s_ (aa_ 0)) L) v/\XW w.heap.size w w')
theorem D2_ {a : Type} {o:a -> a -> Int} {L:List a} {i:Nat} {y:a} (h:L[i]?=QJ y):an_ o (L.take (i+1))=dj_ o (an_ o (L.take i)) y:=by rw[f_ h,hn_]
theorem ya_ {F:Nat->Prop} {w:QV} (L:List e_) (c8:∀t,t∈L->OkT t) {A:Option Addr} {n cp:Nat} (h:SRd 18 TrR w F L A n) (hF:∀b,F b->b<w.heap.size) (hn:n<=1000000000) :
    Calls QW 13 #[QQ A n cp] w (ig_ L w):=by
 have H1:=q_ h;have HF:=q_ hF;have L1:=q_ h.1;have af:=q_ c8;clear h hF c8;go_enter func13,ntmps13
 by_cases ck:65536<n
 ·have e1:(65536:Int)<n:=by omega
  have HE:=q_ (show ∀w',XW w.heap.size w w'->ig_ L w (YQ (ZJ #[QQ QK 0 0,QY QU 20])) w' from λw' hb=>.inl ⟨λh=>by have:=h.1;have:=L1.o;omega,rfl,hb⟩);go_wp2_with fail;go_ret2;exact HE.o _ (XV _ _)
 ·have e1:¬(65536:Int)<n:=by omega
  have HN:=q_ (show n<=65536 from by omega);go_wp2_with fail;clear hn ck e1;go_loopw [4] (λs4 wx=>∃i:Nat,i<=n/\s4 = QY QU (i:Nat)/\Q_ (XW w.heap.size w wx/\∀m t,m<i->L[m]?=QJ t->ch_ t=true)) (λs4 _=>n-(intOf s4).toNat)
  case atStart=>exact⟨0,by omega,rfl,q_ ⟨XV _ _,λm t hm=>absurd hm (by omega)⟩⟩
  case round=>
   obtain⟨i,hi,rfl,hM⟩:=hrel;by_cases cw:i<n
   ·have a1:(0:Int)<=i:=by omega
    have a2:(i:Int)<n:=by omega
    have w1:IntKind.i64.wrap ((i:Int)+1)=(i:Int)+1:=YU _ (by have:=HN.o;omega);obtain⟨t,ht⟩:∃t,L[i]?=QJ t:=⟨_,XQ (by rw[<-L1.o];exact cw)⟩;obtain⟨ad,ss,rfl,aj,U,hr⟩:=TrR.cells H1.o ht;have HT:=q_ ht;have a0:=λ(W:QV) (hb:XW w.heap.size w W)=>yb_ t (af.o t (YZ ht)) F ss W (λg h=>XZ (HF.o g h) hb.size) (λq U=>(hr q U).under hb HF.o);unfold n_ at a0;obtain⟨ct,c3⟩:=ba_ t ss;rw[c3.o]at U a0;obtain⟨b,Hb⟩:=a_ (ch_ t);rw[Hb.o]at a0;have cg:=q_ (a0 wr hM.o.1);have I1:=q_ (e8_.trans (congrArg QJ c3.size.symm));have co:=q_ (λ(W:QV) (hb:XW w.heap.size w W) (j:Nat) (hj:j<ct.size)=>(hb.cell (p:=(ad.add (i*18)).add j) (by rw[A_,A_];exact HF.o _ aj)).trans (U j hj));clear ht aj U hr a0;go_wp2_with ((with_reducible refine d_ (some 21) ?_);refine C_ (by rfl) 41 _ rfl rfl ct _ (co.o _ hM.o.1) underlying41 rfl I1.o ?_)
    refine cg.o.mono ?_;rintro e x ⟨rfl,hb⟩;have HX:=q_ (hM.o.1.trans (hb.mono hM.o.1.size));clear hb
    cases b with
    | false=>
     have HE:=q_ (show ig_ L w (YQ (ZJ #[QQ QK 0 0,QY QU 20])) x from .inl ⟨(λh=>by
      have h2:=List.all_eq_true.1 h.2 t (YZ HT.o);rw[Hb.o]at h2
      cases h2),rfl,HX.o⟩)
     go_wp2_with fail;go_ret2;exact HE.o
    | true=>
     go_wp2_with fail;go_roundw
     case rel=>exact⟨i+1,by omega,by go_num,q_ ⟨HX.o,λm u hm hu=>by
      by_cases e:m=i
      ·subst e;rw[HT.o]at hu;injection hu with hu;subst hu;exact Hb.o
      ·exact hM.o.2 m u (by omega) hu⟩⟩
     case measure=>simp[intOf];omega
   ·have a2:¬(i:Int)<n:=by omega
    have cu:i=n:=by omega
    subst cu;have a8:=q_ (show L.all ch_=true from by rw[List.all_eq_true];intro t ht;obtain⟨m,hm⟩:=List.getElem?_of_mem ht;exact hM.o.2 m t (by have:=(List.getElem?_eq_some_iff.1 hm).1;have:=L1.o;omega) hm);have bz:=q_ (λt (ht:t∈L)=>(show v0_ t from lu_ (bx_ (List.all_eq_true.1 a8.o t ht) (af.o t ht)) (λn=>((af.o t ht).get n).fit)));have cs:=q_ (LdP.startOn (E:=41) (sz:=18) (R:=CT) hM.o.1);obtain⟨i0,c6,cb,cc,cd⟩:=info_parts o7_;have a4:=q_ c6;have a6:=q_ cb;have a5:=q_ cc;have a3:=q_ cd;clear c6 cb cc cd a2 hi;obtain⟨w0,d0⟩:∃w0,w0=wr:=⟨_,rfl⟩;go_wp2_with fail;go_loopw [5,6] (λs5 s6 wx=>∃(j:Nat) (S:XJ),j<=i/\s6 = QY QU (j:Nat)/\S=s5/\Q_ (LdP 41 18 CT w (an_ (s_ (aa_ 0)) (L.take j)) S wx)) (λ_ s6 _=>i-(intOf s6).toNat)
    case atStart=>exact⟨0,_,by omega,rfl,rfl,q_ cs.o⟩
    case round=>
     obtain⟨j,S,hj,rfl,rfl,hN⟩:=hrel;by_cases bu:j<i
     ·have a1:(0:Int)<=j:=by omega
      have a2:(j:Int)<i:=by omega
      have w1:IntKind.i64.wrap ((j:Int)+1)=(j:Int)+1:=YU _ (by have:=HN.o;omega);obtain⟨y,hy⟩:∃y,L[j]?=QJ y:=⟨_,XQ (by rw[<-L1.o];exact bu)⟩;obtain⟨ad,N,e,aj,ba,U,hr⟩:=H1.o.at_ hy;subst e;have HY:=q_ hy;have bj:=q_ (hr.cellT (bz.o y (YZ hy)));have ZY:=q_ ba;have IY:=q_ (e8_.trans (congrArg QJ ba.symm));have bc:=q_ (λ(W:QV) (hb:XW w.heap.size w W) (q:Nat) (c9:q<N.size)=>(show W.cell? ((ad.add (j*18)).add q)=N[q]? from by rw[add_of_add,hb.cell (p:=ad.add (j*18+q)) (by rw[A_];exact HF.o _ aj)];exact U q (by omega)));have P:=q_ bu;obtain⟨l,Hl⟩:=a_ (an_ (s_ (aa_ 0)) (L.take j));have B:=hN.o;rw[Hl.o]at B;obtain⟨m,M⟩:=a_ l.length;have C:=q_ (show m<=65536 from by have h1:=fi_ (s_ (aa_ 0)) (L.take j);rw[Hl.o,M.o,UJ]at h1;have:=HN.o;omega);obtain⟨A5,s,rfl,bd,ac⟩:∃A c,S = QQ A m c/\m<=c/\(A=QK->c=0):=by obtain⟨A,c,e,h1,h2⟩:=B.own.form;rw[M.o]at e h1;exact⟨A,c,e,h1,h2⟩
      have bb:=q_ bd;have a9:=q_ ac;have c0:=q_ B;have aa:=q_ (show an_ (s_ (aa_ 0)) (L.take (j+1))=dj_ (s_ (aa_ 0)) l y from by rw[D2_ hy,Hl.o]);clear hy aj ba U hr bu hN B bd ac;go_wp2_with fail;obtain⟨ce,d1⟩:∃ce,ce=wr:=⟨_,rfl⟩;go_loopw [7] (λs7 wx=>∃k:Nat,k<=m/\s7 = QY QU (k:Nat)/\Q_ (LdP 41 18 CT w l (QQ A5 m s) wx/\a3_ (s_ (aa_ 0)) y l m=a3_ (s_ (aa_ 0)) y l k)) (λs7 _=>(intOf s7).toNat)
      case atStart=>exact⟨m,by omega,rfl,q_ ⟨c0.o,rfl⟩⟩
      case round=>
       obtain⟨k,hk,rfl,hQ⟩:=hrel;clear c0;by_cases bw:k=0
       ·have HM:=q_ hQ.o.1;have b4:=q_ (show dj_ (s_ (aa_ 0)) l y=l.take k++([y]++l.drop k) from by rw[bw];exact xf_ (by rw[M.o,hQ.o.2,bw];exact tt_));have D:=q_ hk;have g0:¬(0:Int)<k:=by omega
        have g1:¬0<k:=by omega
        clear hQ bw;go_upto_region 13 with fail;refine UZ (S:=λW'=>LdP 41 18 CT w l (QQ A5 m s) W') (by kernel_rfl) HM.o.drew λd=>?_;refine H_.o ?_;refine O_ 0 32 (QY QU (k:Nat)) d λd=>?_;refine O_ 1 33 (XY false) d λd=>?_;refine O_ 2 34 (XY false) d λd=>?_;refine r_ 3 35 (by kernel_rfl) (by rfl) (by kernel_rfl) (by kernel_rfl) (by kernel_rfl) (λ_ _ _ h=>h) d λd=>?_;(try simp only[VK,aT,aZ,aS]);refine r_ 4 36 (by kernel_rfl) (by rfl) (by kernel_rfl) (by kernel_rfl) (by kernel_rfl) (λ_ _ _ h=>h) d λd=>?_;(try simp only[VK,aT,aZ,aS]);refine r_ 5 37 (by kernel_rfl) (by rfl) (by kernel_rfl) (by kernel_rfl) (by kernel_rfl) (λ_ _ _ h=>h) d λd=>?_;(try simp only[VK,aT,aZ,aS]);refine r_ 6 38 (by kernel_rfl) (by rfl) (by kernel_rfl) (by kernel_rfl) (by kernel_rfl) (λ_ _ _ h=>h) d λd=>?_;(try simp only[VK,aT,aZ,aS]);refine r_ 7 39 (by kernel_rfl) (by rfl) (by kernel_rfl) (by kernel_rfl) (by kernel_rfl) (λ_ _ _ h=>h) d λd=>?_;(try simp only[VK,aT,aZ,aS]);refine r_ 8 40 (by kernel_rfl) (by rfl) (by kernel_rfl) (by kernel_rfl) (by kernel_rfl) (λ_ _ _ h=>h) d λd=>?_;(try simp only[VK,aT,aZ,aS]);refine r_ 9 41 (by kernel_rfl) (by rfl) (by kernel_rfl) (by kernel_rfl) (by kernel_rfl) (λ_ _ _ h=>h) d λd=>?_;(try simp only[VK,aT,aZ,aS]);refine r_ 10 42 (by kernel_rfl) (by rfl) (by kernel_rfl) (by kernel_rfl) (by kernel_rfl) (λ_ _ _ h=>h) d λd=>?_;(try simp only[VK,aT,aZ,aS]);refine r_ 11 43 (by kernel_rfl) (by rfl) (by kernel_rfl) (by kernel_rfl) (by kernel_rfl) (λ_ _ _ h=>h) d λd=>?_;(try simp only[VK,aT,aZ,aS]);refine r_ 12 44 (by kernel_rfl) (by rfl) (by kernel_rfl) (by kernel_rfl) (by kernel_rfl) (λ_ _ _ h=>h) d λd=>?_;(try simp only[VK,aT,aZ,aS]);refine r_ 13 45 (by kernel_rfl) (by rfl) (by kernel_rfl) (by kernel_rfl) (by kernel_rfl) (λ_ _ _ h=>h) d λd=>?_;(try simp only[VK,aT,aZ,aS]);refine O_ 14 46 (XY false) d λd=>?_;refine⟨VX (by kernel_rfl) ?_ _⟩;go_upto_region 15 with fail;refine UZ (S:=λW'=>LdP 41 18 CT w l (QQ A5 m s) W') (by kernel_rfl) d.drew λd=>?_;refine H_.o ?_;refine O_ 0 49 (QY QU (k:Nat)) d λd=>?_;refine O_ 1 50 (XY false) d λd=>?_;refine O_ 2 51 (XY false) d λd=>?_;refine r_ 3 52 (by kernel_rfl) (by rfl) (by kernel_rfl) (by kernel_rfl) (by kernel_rfl) (λ_ _ _ h=>h) d λd=>?_;(try simp only[VK,aT,aZ,aS]);refine r_ 4 53 (by kernel_rfl) (by rfl) (by kernel_rfl) (by kernel_rfl) (by kernel_rfl) (λ_ _ _ h=>h) d λd=>?_;(try simp only[VK,aT,aZ,aS]);refine r_ 5 54 (by kernel_rfl) (by rfl) (by kernel_rfl) (by kernel_rfl) (by kernel_rfl) (λ_ _ _ h=>h) d λd=>?_;(try simp only[VK,aT,aZ,aS]);refine r_ 6 55 (by kernel_rfl) (by rfl) (by kernel_rfl) (by kernel_rfl) (by kernel_rfl) (λ_ _ _ h=>h) d λd=>?_;(try simp only[VK,aT,aZ,aS]);refine r_ 7 56 (by kernel_rfl) (by rfl) (by kernel_rfl) (by kernel_rfl) (by kernel_rfl) (λ_ _ _ h=>h) d λd=>?_;(try simp only[VK,aT,aZ,aS]);refine r_ 8 57 (by kernel_rfl) (by rfl) (by kernel_rfl) (by kernel_rfl) (by kernel_rfl) (λ_ _ _ h=>h) d λd=>?_;(try simp only[VK,aT,aZ,aS]);refine r_ 9 58 (by kernel_rfl) (by rfl) (by kernel_rfl) (by kernel_rfl) (by kernel_rfl) (λ_ _ _ h=>h) d λd=>?_;(try simp only[VK,aT,aZ,aS]);refine r_ 10 59 (by kernel_rfl) (by rfl) (by kernel_rfl) (by kernel_rfl) (by kernel_rfl) (λ_ _ _ h=>h) d λd=>?_;(try simp only[VK,aT,aZ,aS]);refine r_ 11 60 (by kernel_rfl) (by rfl) (by kernel_rfl) (by kernel_rfl) (by kernel_rfl) (λ_ _ _ h=>h) d λd=>?_;(try simp only[VK,aT,aZ,aS]);refine r_ 12 61 (by kernel_rfl) (by rfl) (by kernel_rfl) (by kernel_rfl) (by kernel_rfl) (λ_ _ _ h=>h) d λd=>?_;(try simp only[VK,aT,aZ,aS]);refine r_ 13 62 (by kernel_rfl) (by rfl) (by kernel_rfl) (by kernel_rfl) (by kernel_rfl) (λ_ _ _ h=>h) d λd=>?_;(try simp only[VK,aT,aZ,aS]);refine O_ 14 63 (XY false) d λd=>?_;refine⟨VX (by kernel_rfl) ?_ _⟩;have ae:=q_ d;clear d HM;go_upto_region 17 with fail;obtain⟨bg,br,aw,ap,ah⟩:=mj_ (k:=k) vt_ jr_ (A:=A5) (n:=m) (c:=s) D.o bb.o a9.o;obtain⟨bh,bs,ay,aq,ai⟩:=h1_ (k:=k) vt_ jr_ (A:=A5) (n:=m) (c:=s) D.o bb.o a9.o;have b7:=q_ aw;have b8:=q_ ay;have b5:=q_ ap;have b6:=q_ aq;have b2:=q_ ah;have b3:=q_ ai;clear aw ay ap aq ah ai;have I:=q_ (InP.start ae.o);have Y:=q_ ((I.o.l.own.rd T_ (F:=λb=>(Value.slice A5 m s).ownBlock=QJ b) (λ_ h=>h) M.o).part_to D.o b2.o)
        go_upto_region 18 with (first
         | ((with_reducible refine d_ (some 67) ?_);refine gl_ rfl (QQ bg k br) (k_ (b7.o _)) ?_)
         | ((with_reducible refine d_ (some 68) ?_);refine ae_ T_ rfl (.tmp 64) (.tmp 67) 22 rfl i0 _ underlying22 a4.o a6.o a5.o a3.o rfl (by decide) rfl I.o.n.own rfl rfl Y.o b5.o (by have:=C.o;have:=D.o;simp;omega) (by decide) ?_;intro v1 y1 ar ak az))
        have V:=q_ (I.o.app ar ak az);clear ar ak az;have X:=q_ (V.o.on ((XV _ _).alloc (XK _) (XX N 41)));have bq:=q_ (no_ T_ bj.o y1 41)
        go_upto_region 19 with (first
         | ((with_reducible refine d_ (some 73) ?_);refine C_ (by rfl) 41 _ rfl rfl N _ (bc.o _ V.o.l.hb) underlying41 rfl IY.o ?_)
         | ((with_reducible refine d_ (some 74) ?_);refine ul_ rfl 22 1 _ rfl #[(0,.agg N)] (by kernel_rfl) (QQ (QJ ⟨y1.heap.size,0,QK⟩) 1 1) _ (jc_ N ZY.o y1) ?_)
         | ((with_reducible refine d_ (some 75) ?_);refine ae_ T_ rfl (.tmp 69) (.tmp 74) 22 rfl i0 _ underlying22 a4.o a6.o a5.o a3.o rfl (by decide) rfl X.o.n.own rfl rfl bq.o (λh=>by cases h) (by have:=C.o;have:=D.o;simp;omega) (by decide) ?_;intro v2 y2 au am b0))
        have J:=q_ (X.o.app au am b0);clear au am b0 X V I Y;have Z:=q_ ((J.o.l.own.rd T_ (F:=λb=>(Value.slice A5 m s).ownBlock=QJ b) (λ_ h=>h) M.o).part_from D.o b3.o)
        go_wp2_with (first
         | ((with_reducible refine d_ (some 79) ?_);refine gl_ rfl (QQ bh (m-k) bs) (k_ (b8.o _)) ?_)
         | ((with_reducible refine d_ (some 80) ?_);refine ae_ T_ rfl (.tmp 76) (.tmp 79) 22 rfl i0 _ underlying22 a4.o a6.o a5.o a3.o rfl (by decide) rfl J.o.n.own rfl rfl Z.o b6.o (by have:=C.o;have:=D.o;simp;omega) (by decide) ?_;intro v3 y3 av ao b1))
        have bl:=q_ (J.o.app av ao b1);clear av ao b1 J Z;go_wp2_with fail;go_roundw
        case rel=>exact⟨j+1,_,by have:=P.o;omega,by go_num,rfl,q_ (by have h:=bl.o.done;rw[List.nil_append,UW]at h;rw[aa.o,b4.o];exact h)⟩
        case measure=>have:=P.o;simp[intOf];omega
       ·obtain⟨r,c7⟩:∃r,k=r+1:=⟨k-1,by omega⟩;have g0:(0:Int)<k:=by omega
        have g1:0<k:=by omega
        have c2:=q_ (show IntKind.i64.wrap ((k:Int)-1)=(r:Int) from by rw[YU _ (by have:=C.o;omega)];omega);have a7:=q_ c7;have D:=q_ hk;have bm:=q_ (show r<m from by omega);obtain⟨x,hx⟩:∃x,l[r]?=QJ x:=⟨_,XQ (by rw[M.o];omega)⟩;obtain⟨f,O,rfl,G,bt,ca⟩:=hQ.o.1.own.cell T_ M.o hx;have HX:=q_ hx;have bn:=q_ G;have IX:=q_ (e8_.trans (congrArg QJ (dx_.size bt).symm));have cq:=q_ (λ(W:QV) (hb:XW wr.heap.size wr W) (q:Nat) (c9:q<O.size)=>(hb.cell (p:=(f.add (r*18)).add q) (by rw[A_,A_];exact G)).trans (ca q c9));have ab:=λW=>x9_ (a:=x) (b:=y) bt bj.o W;unfold rl_ at ab;obtain⟨om,ag⟩:=a_ (s_ (aa_ 0) x y);rw[ag.o]at ab;have bi:=q_ ab;have HM:=q_ hQ.o.1;have c1:=q_ hQ.o.2;clear hx G bt ca ab hQ c7;go_upto_region 13 with fail;refine UZ (S:=λW'=>LdP 41 18 CT w l (QQ (QJ f) m s) W'/\∀q,q<O.size->W'.cell? ((f.add (r*18)).add q)=O[q]?) (by kernel_rfl) ⟨HM.o.drew,cq.o _ (XV _ _).drew⟩ λd=>?_;refine H_.o ?_;refine O_ 0 32 (QY QU (k:Nat)) d λd=>?_;refine O_ 1 33 (XY true) d λd=>?_;refine O_ 2 34 (XY true) d λd=>?_;refine O_ 3 35 (QQ (QJ f) m s) d λd=>?_;refine O_ 4 36 (QY QU (k:Nat)) d λd=>?_;refine tlW 5 37 (QY QU (r:Nat)) d (λw z=>?_) λd=>?_
        ·have p:=c2.o;unfold z_;go_simp
        refine tlW 6 38 (YK (QJ (f.add (r*18)))) d (λw z=>?_) λd=>?_
        ·exact k_ (hl_ f m s r bm.o w)
        refine tlW 7 39 (.agg O) d (λw z=>?_) λd=>?_
        ·have p:=v_ w (f.add (r*18)) 41 O _ z.2 underlying41 rfl IX.o;exact k_ (by simp only[Instr.loadAt,Instr.sureAddr,Sem.run_bind];exact p)
        refine O_ 8 40 (QQ (QJ ad) i cp) d λd=>?_;refine O_ 9 41 (QY QU (j:Nat)) d λd=>?_;refine tlW 10 42 (YK (QJ (ad.add (j*18)))) d (λw z=>?_) λd=>?_
        ·exact k_ (hl_ ad i cp j P.o w)
        refine tlW 11 43 (.agg N) d (λw z=>?_) λd=>?_
        ·have p:=v_ w (ad.add (j*18)) 41 N _ (bc.o _ z.1.hb) underlying41 rfl IY.o;exact k_ (by simp only[Instr.loadAt,Instr.sureAddr,Sem.run_bind];exact p)
        refine tlC 12 λK hK=>?_;go_simp;refine (bi.o _).mono ?_;rintro e x1 ⟨rfl,hb⟩;have ci:=q_ (show wr.heap.size<=x1.heap.size from hb.size)
        have bk:=q_ (show LdP 41 18 CT w l (QQ (QJ f) m s) x1/\∀q,q<O.size->x1.cell? ((f.add (r*18)).add q)=O[q]? from ⟨d.1.on hb,λq U=>by
         have G:f.block<wr.drew.heap.size:=bn.o;exact (hb.cell (p:=(f.add (r*18)).add q) (by rw[A_,A_];exact G)).trans (d.2 q U)⟩)
        clear hb;dsimp only;refine tlB hK bk.o λd=>?_;clear hK K;by_cases bf:0<om
        ·have cl:(0:Int)<om:=bf;refine O_ 13 45 (XY true) d λd=>?_;refine O_ 14 46 (XY true) d λd=>?_;refine⟨VX (by kernel_rfl) ?_ _⟩;have bo:=q_ d.1;clear d;have wk:wrap64 ((k:Int)-1)=(r:Int):=(IntWalk.wrap64_in _ (by have h2:k=r+1:=a7.o;have:=C.o;have:=D.o;omega)).trans (by have h2:k=r+1:=a7.o;omega);go_wp2_with fail;go_roundw
         case rel=>exact⟨r,by have:=bm.o;omega,by go_num,q_ ⟨bo.o,by have h1:=c1.o;have h2:k=r+1:=a7.o;rw[h1,h2];exact tr_ HX.o (by rw[ag.o];exact bf)⟩⟩
         case measure=>have h2:k=r+1:=a7.o;simp[intOf];omega
        ·have cl:¬(0:Int)<om:=bf;refine O_ 13 45 (XY false) d λd=>?_;refine O_ 14 46 (XY false) d λd=>?_;refine⟨VX (by kernel_rfl) ?_ _⟩;have bp:=q_ (show a3_ (s_ (aa_ 0)) y l l.length=r+1 from by have h1:=c1.o;have h2:k=r+1:=a7.o;rw[M.o,h1,h2];exact ts_ HX.o (by rw[ag.o];exact bf));have bo:=q_ d.1;have cj:=q_ (show wr.heap.size<=x1.drew.heap.size from ci.o);have ch:=q_ d.2;clear d;go_upto_region 15 with fail;refine UZ (S:=λW'=>LdP 41 18 CT w l (QQ (QJ f) m s) W'/\∀q,q<O.size->W'.cell? ((f.add (r*18)).add q)=O[q]?) (by kernel_rfl) ⟨bo.o.drew,ch.o⟩ λd=>?_;refine H_.o ?_;refine O_ 0 49 (QY QU (k:Nat)) d λd=>?_;refine O_ 1 50 (XY true) d λd=>?_;refine O_ 2 51 (XY true) d λd=>?_;refine O_ 3 52 (QQ (QJ f) m s) d λd=>?_;refine O_ 4 53 (QY QU (k:Nat)) d λd=>?_;refine tlW 5 54 (QY QU (r:Nat)) d (λw z=>?_) λd=>?_
         ·have p:=c2.o;unfold z_;go_simp
         refine tlW 6 55 (YK (QJ (f.add (r*18)))) d (λw z=>?_) λd=>?_
         ·exact k_ (hl_ f m s r bm.o w)
         refine tlW 7 56 (.agg O) d (λw z=>?_) λd=>?_
         ·have p:=v_ w (f.add (r*18)) 41 O _ z.2 underlying41 rfl IX.o;exact k_ (by simp only[Instr.loadAt,Instr.sureAddr,Sem.run_bind];exact p)
         refine O_ 8 57 (QQ (QJ ad) i cp) d λd=>?_;refine O_ 9 58 (QY QU (j:Nat)) d λd=>?_;refine tlW 10 59 (YK (QJ (ad.add (j*18)))) d (λw z=>?_) λd=>?_
         ·exact k_ (hl_ ad i cp j P.o w)
         refine tlW 11 60 (.agg N) d (λw z=>?_) λd=>?_
         ·have p:=v_ w (ad.add (j*18)) 41 N _ (bc.o _ z.1.hb) underlying41 rfl IY.o;exact k_ (by simp only[Instr.loadAt,Instr.sureAddr,Sem.run_bind];exact p)
         refine tlC 12 λK hK=>?_;go_simp;refine (bi.o _).mono ?_;rintro e x2 ⟨rfl,hb⟩
         have bk:=q_ (show LdP 41 18 CT w l (QQ (QJ f) m s) x2/\∀q,q<O.size->x2.cell? ((f.add (r*18)).add q)=O[q]? from ⟨d.1.on hb,λq U=>by
          have G:f.block<x1.drew.heap.size:=XZ bn.o cj.o;exact (hb.cell (p:=(f.add (r*18)).add q) (by rw[A_,A_];exact G)).trans (d.2 q U)⟩)
         clear hb;dsimp only;refine tlB hK bk.o λd=>?_;clear hK K;by_cases b9:om=0
         ·subst b9;refine O_ 13 62 (XY true) d λd=>?_;refine O_ 14 63 (XY true) d λd=>?_;refine⟨VX (by kernel_rfl) ?_ _⟩;have ae:=q_ d.1;clear d;go_wp2_with fail;go_roundw
          case rel=>exact⟨j+1,_,by have:=P.o;omega,by go_num,rfl,q_ (by rw[aa.o,xg_ HX.o bp.o ag.o];exact ae.o)⟩
          case measure=>have:=P.o;simp[intOf];omega
         ·have cz:¬om=0:=b9;have b4:=q_ (show dj_ (s_ (aa_ 0)) l y=l.take k++([y]++l.drop k) from by have h2:k=r+1:=a7.o;rw[h2];exact xe_ HX.o bp.o (by rw[ag.o];exact b9));refine O_ 13 62 (XY false) d λd=>?_;refine O_ 14 63 (XY false) d λd=>?_;refine⟨VX (by kernel_rfl) ?_ _⟩;have ae:=q_ d.1;clear d;go_upto_region 17 with fail;obtain⟨bg,br,aw,ap,ah⟩:=mj_ (k:=k) vt_ jr_ (A:=(QJ f)) (n:=m) (c:=s) D.o bb.o a9.o;obtain⟨bh,bs,ay,aq,ai⟩:=h1_ (k:=k) vt_ jr_ (A:=(QJ f)) (n:=m) (c:=s) D.o bb.o a9.o;have b7:=q_ aw;have b8:=q_ ay;have b5:=q_ ap;have b6:=q_ aq;have b2:=q_ ah;have b3:=q_ ai;clear aw ay ap aq ah ai;have I:=q_ (InP.start ae.o);have Y:=q_ ((I.o.l.own.rd T_ (F:=λb=>(Value.slice (QJ f) m s).ownBlock=QJ b) (λ_ h=>h) M.o).part_to D.o b2.o)
          go_upto_region 18 with (first
           | ((with_reducible refine d_ (some 67) ?_);refine gl_ rfl (QQ bg k br) (k_ (b7.o _)) ?_)
           | ((with_reducible refine d_ (some 68) ?_);refine ae_ T_ rfl (.tmp 64) (.tmp 67) 22 rfl i0 _ underlying22 a4.o a6.o a5.o a3.o rfl (by decide) rfl I.o.n.own rfl rfl Y.o b5.o (by have:=C.o;have:=D.o;simp;omega) (by decide) ?_;intro v1 y1 ar ak az))
          have V:=q_ (I.o.app ar ak az);clear ar ak az;have X:=q_ (V.o.on ((XV _ _).alloc (XK _) (XX N 41)));have bq:=q_ (no_ T_ bj.o y1 41)
          go_upto_region 19 with (first
           | ((with_reducible refine d_ (some 73) ?_);refine C_ (by rfl) 41 _ rfl rfl N _ (bc.o _ V.o.l.hb) underlying41 rfl IY.o ?_)
           | ((with_reducible refine d_ (some 74) ?_);refine ul_ rfl 22 1 _ rfl #[(0,.agg N)] (by kernel_rfl) (QQ (QJ ⟨y1.heap.size,0,QK⟩) 1 1) _ (jc_ N ZY.o y1) ?_)
           | ((with_reducible refine d_ (some 75) ?_);refine ae_ T_ rfl (.tmp 69) (.tmp 74) 22 rfl i0 _ underlying22 a4.o a6.o a5.o a3.o rfl (by decide) rfl X.o.n.own rfl rfl bq.o (λh=>by cases h) (by have:=C.o;have:=D.o;simp;omega) (by decide) ?_;intro v2 y2 au am b0))
          have J:=q_ (X.o.app au am b0);clear au am b0 X V I Y;have Z:=q_ ((J.o.l.own.rd T_ (F:=λb=>(Value.slice (QJ f) m s).ownBlock=QJ b) (λ_ h=>h) M.o).part_from D.o b3.o)
          go_wp2_with (first
           | ((with_reducible refine d_ (some 79) ?_);refine gl_ rfl (QQ bh (m-k) bs) (k_ (b8.o _)) ?_)
           | ((with_reducible refine d_ (some 80) ?_);refine ae_ T_ rfl (.tmp 76) (.tmp 79) 22 rfl i0 _ underlying22 a4.o a6.o a5.o a3.o rfl (by decide) rfl J.o.n.own rfl rfl Z.o b6.o (by have:=C.o;have:=D.o;simp;omega) (by decide) ?_;intro v3 y3 av ao b1))
          have bl:=q_ (J.o.app av ao b1);clear av ao b1 J Z;go_wp2_with fail;go_roundw
          case rel=>exact⟨j+1,_,by have:=P.o;omega,by go_num,rfl,q_ (by have h:=bl.o.done;rw[List.nil_append,UW]at h;rw[aa.o,b4.o];exact h)⟩
          case measure=>have:=P.o;simp[intOf];omega
     ·have cv:j=i:=by omega
      subst cv;have a2:¬(j:Int)<j:=by omega
      have cf:=q_ (show L.take j=L from YJ (by have:=L1.o;omega));have B:=hN.o;rw[cf.o]at B;obtain⟨T,HT⟩:=a_ (an_ (s_ (aa_ 0)) L);rw[HT.o]at B;obtain⟨m,M⟩:=a_ T.length;obtain⟨A5,s,rfl,bd,ac⟩:∃A c,S = QQ A m c/\m<=c/\(A=QK->c=0):=by obtain⟨A,c,e,h1,h2⟩:=B.own.form;rw[M.o]at e h1;exact⟨A,c,e,h1,h2⟩
      have cn:=q_ (show ∀t,t∈T->v0_ t from λt ht=>by
       have hl:=ct_ (az_ (aa_ 0)) (l:=L) (λa ha b hb h0=>fp_ (eb_ 0) (bx_ (List.all_eq_true.1 a8.o a ha) (af.o a ha)) (bx_ (List.all_eq_true.1 a8.o b hb) (af.o b hb)) h0);rw[HT.o]at hl;exact bz.o t ((hl.2 t).1 ht))
      have cm:=q_ (show m<=65536 from by have h1:=fi_ (s_ (aa_ 0)) L;rw[HT.o,M.o]at h1;have:=HN.o;have:=L1.o;omega);have cr:=q_ ((B.own.rd T_ (F:=λb=>b<wr.heap.size) (λb hb=>B.own.lt hb) M.o).imp (R':=TrR) (λ_ h=>h) (λt c h=>dx_.trR h wr _));have HB:=q_ B.hb;clear hN B bd ac;go_wp2_with fail;refine (p4_ cr.o (λb hb=>hb) (by have:=cm.o;omega) (λt ht q=>by rw[(cn.o t ht q).list];decide)).mono ?_;unfold k3_;rintro e x ⟨v,rfl,bx,hb⟩;have HE:=q_ (show ig_ L w (YQ (ZJ #[v,QY QU 0])) x from .inr ⟨by have:=HN.o;have:=L1.o;omega,a8.o,v,rfl,by rw[HT.o];exact bx.mono TrR.good (λb c4=>⟨ZX HB.o.size c4.1,c4.2⟩),HB.o.trans (hb.mono HB.o.size)⟩);clear bx hb;go_wp2_with fail;go_ret2;exact HE.o
noncomputable def c6_ (a:List i_) (i:Int):g_:=match a.find? (λn=>decide (n.id=i)) with | some n=>(ce_ n).1 | none=>i6_
noncomputable def eu_ (a:List i_) (e:l_):e_:=⟨c6_ a e.src,ou_ e.type,c6_ a e.dst⟩
noncomputable def cf_ (G:D_):Option (List e_):=open Classical in
 if (∀n,n∈G.nodes->(ce_ n).2=true)/\(G.edges.map (eu_ G.nodes)).length<=65536/\(G.edges.map (eu_ G.nodes)).all ch_=true/\bn_ (an_ (s_ (aa_ 0)) (G.edges.map (eu_ G.nodes)))=G then QJ (G.edges.map (eu_ G.nodes)) else QK
def j8_ (g G:D_):Prop:=∃a,jw_ g a/\b1_ kb_ a.nodes G.nodes/\b1_ ka_ a.edges G.edges
theorem ti_ {c : Type} {R:c -> c -> Prop} {key:c -> Int} {l g:List c} (h:b1_ R l g) (e:∀x y,R x y->key y=key x) (f:l.Pairwise (λa b=>¬ed_ (key b) (key a)<0)):g.Pairwise (λa b=>¬ed_ (key b) (key a)<0):=by rw[List.pairwise_iff_getElem]at f ⊢;intro i j hi k d;have n:=h.1;have h1:=e _ _ (h.2 i _ _ (XQ (by omega)) (XQ hi));have h2:=e _ _ (h.2 j _ _ (XQ (by omega)) (XQ k));rw[h1,h2];exact f i j (by omega) (by omega) d
theorem ku_ {g G:D_} (h:j8_ g G):∃a,jw_ g a/\jw_ a G:=by obtain⟨a,h1,h2,b⟩:=h;obtain⟨⟨_,_,_,d⟩,⟨_,_,_,c⟩⟩:=id h1;exact⟨a,h1,⟨_,h2,List.Perm.refl _,ti_ (key:=i_.id) h2 (λ_ _ h=>h.1) d⟩,⟨_,b,List.Perm.refl _,ti_ (key:=l_.id) b (λ_ _ h=>h.1) c⟩⟩
theorem ht_ {g G:D_} (a:j3_ g) (h:j8_ g G):j3_ G:=by obtain⟨_,h1,h2⟩:=ku_ h;exact uv_ (uv_ a h1) h2
theorem Ao_ {g G:D_} (a:dn_ g=true) (h:j8_ g G):dn_ G=true:=by obtain⟨_,h1,h2⟩:=ku_ h;exact o9_ (o9_ a h1) h2
def se_ (n:i_) (p:Int×XJ):Prop:=p.1=n.id/\(ce_ n).2=true/\∃A a,p.2 = .agg (c_ (ce_ n).1 (QQ A 0 a))
theorem Ju_ {a:List i_} {l:List (Int×XJ)} (h:b1_ se_ a l):l.map (·.1)=a.map i_.id:=by
 refine List.ext_getElem? λi=>?_;rw[List.getElem?_map,List.getElem?_map];by_cases hi:i<a.length
 ·have b:i<l.length:=by rw[<-h.1];exact hi
  rw[XQ hi,XQ b];have:=(h.2 i _ _ (XQ hi) (XQ b)).1;simp only[Option.map_some,this]
 ·rw[ZK (by rw[<-h.1];omega),ZK (by omega)];rfl
theorem sy_ {b:List i_} {l:List (Int×XJ)} (h:b1_ se_ b l) (i:Int):∃A a,n5_ l i = .agg (c_ (c6_ b i) (QQ A 0 a)):=by
 induction b generalizing l with
 | nil=>
  have f:l=[]:=List.length_eq_zero_iff.1 h.1.symm;subst f;exact⟨QK,0,rfl⟩
 | cons n b k=>
  cases l with
  | nil=>exact absurd h.1 (by simp)
  | cons p l=>
   have h0:=h.2 0 n p rfl rfl;have ht:b1_ se_ b l:=⟨by have:=h.1;simpa using this,λi x y g j=>h.2 (i+1) x y g j⟩;obtain⟨h1,_,A,a,d⟩:=h0;by_cases hi:n.id=i
   ·refine⟨A,a,?_⟩;unfold n5_ c6_;rw[List.find?_cons_of_pos (by simp[h1,hi]),List.find?_cons_of_pos (by simp[hi])];exact d
   ·obtain⟨A',c,e⟩:=k ht;refine⟨A',c,?_⟩;unfold n5_ c6_ at e ⊢;rw[List.find?_cons_of_neg (by simp[h1,hi]),List.find?_cons_of_neg (by simp[hi])];exact e
def sf_ (g:D_) (w:QV) (e:Ending) (w':QV):Prop:=XW w.heap.size w w' /\
 ((dn_ g=false/\e = YQ (ZJ #[QQ QK 0 0,QY QU 21])) \/
  (dn_ g=true/\∃G,j8_ g G/\((cf_ G=QK/\e = YQ (ZJ #[QQ QK 0 0,QY QU 22])) \/
   ∃T s,cf_ G=QJ T/\e = YQ (ZJ #[s,QY QU 0])/\x_ 41 18 TrR w' (λb=>w.heap.size<=b/\b<w'.heap.size) T s)))
def ub_ (v:g_):Prop:=-9223372036854775808<=v.num/\v.num<=9223372036854775807
def Cq_ (g:D_):Prop:=∀n,n∈g.nodes->∀p,p∈n.props->ub_ p.v
theorem B7_ {g a:D_} (h:Cq_ g) (e:jw_ g a):Cq_ a:=by obtain⟨⟨m,h1,h2,_⟩,_⟩:=e;intro n b p c;obtain⟨x,f,d⟩:=f0_ h1 h2 b;exact h x f p (d.2.2.1.mem_iff.1 c)
theorem Ap_ {g G:D_} (a:Cq_ g) (h:j8_ g G):Cq_ G:=by obtain⟨_,h1,h2⟩:=ku_ h;exact B7_ (B7_ a h1) h2
theorem Fa_ {n:i_} (h:(ce_ n).2=true):(ce_ n).1=l6_ n/\(l6_ n).kind≠0/\(l6_ n).kind≠5/\I_ (l6_ n) 0=true:=by
 unfold ce_ at h ⊢;split at h
 ·split at h
  ·cases h
  ·rename_i h1 h2;rw[iP_ h1,iN_ h2];simp only[not_or]at h2;exact⟨rfl,h2.1,h2.2.1,by simpa using h2.2.2⟩
 ·cases h
theorem ex_ (k:Int) (t x:ByteArray):ub_ (.mk k false 0 t x []):=⟨by show (-9223372036854775808:Int)<=0;decide,by show (0:Int)<=9223372036854775807;decide⟩
theorem Iw_ {s:ByteArray} {p:g_} {r:List J_} (h:ub_ p):ub_ (ov_ s p r):=by
 unfold ov_;split
 ·exact ex_ ..
 ·split
  ·exact ex_ ..
  ·split
   ·exact ex_ ..
   ·split
    ·exact h
    ·exact ex_ ..
theorem Lx_ {n:i_} (a:rm_ n) (b:∀p,p∈n.props->ub_ p.v):OkV (l6_ n):=by
 obtain⟨d,L,P⟩:=n;have hz:OkV i6_:=⟨by decide,by decide,by decide⟩;unfold l6_;simp only;match L,P,a,b with
 | [s],p::r,a,b=>
  have h1:=Iw_ (s:=s) (r:=r) (b p VJ);have h2:=x1_ (s:=s) (a.2.2.2 p VJ).2 (λq c=>(a.2.2.2 q (List.mem_cons_of_mem _ c)).2);exact⟨ZX h2 (by decide),h1.1,h1.2⟩
 | [],_,_,_=>exact hz
 | [s],[],_,_=>exact hz
 | _::_::_,_,_,_=>exact hz
theorem Ma_ {n:i_} (h:(ce_ n).2=true) (c:rm_ n) (f:∀p,p∈n.props->ub_ p.v):OkV (ce_ n).1/\t9_ (ce_ n).1:=by obtain⟨e,h0,a,d⟩:=Fa_ h;have b:=Lx_ c f;rw[e];exact⟨b,⟨sz_ d a,b.fit,a⟩⟩
theorem J8_:OkV i6_/\t9_ i6_:=⟨⟨by decide,by decide,by decide⟩,⟨rfl,⟨by decide,by decide,by decide⟩,by decide⟩⟩
theorem tw_ {a:List i_} (h:∀n,n∈a->(ce_ n).2=true/\rm_ n/\∀p,p∈n.props->ub_ p.v) (i:Int):OkV (c6_ a i)/\t9_ (c6_ a i):=by
 unfold c6_;split
 ·rename_i n e;have:=h n (List.mem_of_find?_eq_some e);exact Ma_ this.1 this.2.1 this.2.2
 ·exact J8_
theorem Lg_ {t:ByteArray} (h:t.size<=2000000):OkV (ou_ t)/\t9_ (ou_ t):=by have h0:(⟨#[]⟩:ByteArray).size=0:=rfl;have a:OkV (ou_ t):=⟨by unfold ou_;simp only[S_,V_,h0];omega,by show (-9223372036854775808:Int)<=0;decide,by show (0:Int)<=9223372036854775807;decide⟩;exact⟨a,⟨rfl,a.fit,by show (8:Int)≠5;decide⟩⟩
theorem wp_ {a:List i_} (h:∀n,n∈a->(ce_ n).2=true/\rm_ n/\∀p,p∈n.props->ub_ p.v) {e:l_} (c:e.type.size<=2000000):OkT (eu_ a e)/\v0_ (eu_ a e):=by
 have h1:=tw_ h e.src;have h2:=tw_ h e.dst;have b:=Lg_ c;refine⟨⟨h1.1,b.1,h2.1⟩,λn=>?_⟩;unfold e_.get;split
 ·exact h1.2
 ·split
  ·exact b.2
  ·exact h2.2
end
section
open Go
theorem xa_ {d e : Type} (l:List d) (f:Nat -> d -> e) (key:e -> Int) (c:∀i a,key (f i a)=((i:Nat):Int)):(l.mapIdx f).Pairwise (λa b=>key a<key b):=by rw[List.pairwise_iff_getElem];intro i j hi h g;rw[List.getElem_mapIdx,List.getElem_mapIdx,c,c];omega
theorem ss_ {b c : Type} (l:List b) (f:Nat -> b -> c) (key:c -> Int) (d:∀i a,key (f i a)=((i:Nat):Int)):((l.mapIdx f).map key).Nodup:=by unfold List.Nodup;rw[List.pairwise_map];exact (xa_ l f key d).imp λh=>Int.ne_of_lt h
theorem qh_ {c d : Type} (l:List c) (f:Nat -> c -> d) (key:d -> Int) (e:∀i a,key (f i a)=((i:Nat):Int)):(l.mapIdx f).Pairwise (λa b=>¬ed_ (key b) (key a)<0):=
 (xa_ l f key e).imp (λh=>by rw[l3_];omega)
theorem sg_ {b : Type} {R:b -> b -> Prop} {l:List b} (h:∀x,x∈l->R x x):b1_ R l l:=⟨rfl,λi x y c a=>by
 rw[c]at a;injection a with a;subst a;exact h x (YZ c)⟩
theorem ma_ {s:ByteArray} (h:s.size<=1048576):bw_ (txV s)=true:=by
 have h1:I_ (txV s) 0=true:=by unfold txV I_;simp[aw_,h]
 unfold bw_;rw[iN_ (show ¬(txV s).kind=5 from (by decide:¬(4:Int)=5))];unfold bh_;rw[h1];rfl
theorem Eg_ {v:g_} (h:af_ v) (a:¬(v.kind=8\/v.kind=9\/v.kind=10)):bw_ v=true:=by have h2:=h.2.1;unfold bw_;rw[iN_ (by omega)];unfold bh_;rw[h.1,Bool.true_and];simp only[Bool.or_eq_true,beq_iff_eq];omega
theorem kv_ {k:ByteArray} {v:g_} (a:a6_ k=true) (b:bw_ v=true):bc_ [⟨k,v⟩]=true:=by simp[bc_,bd_,inB,a,b]
theorem At_ {k m:ByteArray} {v u:g_} (b:a6_ k=true) (c:a6_ m=true) (a:m≠k) (e:bw_ v=true) (d:bw_ u=true):bc_ [⟨k,v⟩,⟨m,u⟩]=true:=by simp[bc_,bd_,inB,b,c,e,d,a]
theorem ji_ {s:ByteArray} (a:a6_ s=true):bo_ [] [s]=true:=by simp[bo_,inB,a]
theorem L8_:a6_ sV=true:=by decide
theorem Pf_:a6_ sX=true:=by decide
theorem Oz_:sX≠sV:=by decide
theorem Lu_ (a:Int) {v:g_} (h:af_ v):bo_ [] (U_ a v).labels=true/\(U_ a v).labels.length<=65536/\bc_ (U_ a v).props=true:=by
 obtain⟨ht,c⟩:=kz_ h;unfold U_;split
 ·exact⟨ji_ (by decide),by simp,kv_ L8_ (ma_ ht)⟩
 ·split
  ·exact⟨ji_ (by decide),by simp,kv_ L8_ (ma_ ht)⟩
  ·split
   ·exact⟨ji_ (by decide),by simp,At_ L8_ Pf_ Oz_ (ma_ ht) (ma_ c)⟩
   ·rename_i h1 h2 b;exact⟨ji_ (by decide),by simp,kv_ L8_ (Eg_ h (λe=>e.elim h1 (λe=>e.elim h2 b)))⟩
theorem It_ (a:Int) (v:g_):kb_ (U_ a v) (U_ a v):=by
 refine⟨rfl,⟨List.Perm.refl _,?_⟩,⟨List.Perm.refl _,?_⟩⟩
 ·unfold U_
  (repeat' split)<;>exact List.pairwise_singleton _ _
 ·unfold U_;split
  ·exact List.pairwise_singleton _ _
  ·split
   ·exact List.pairwise_singleton _ _
   ·split
    ·refine List.pairwise_cons.2 ⟨λp b=>?_,List.pairwise_singleton _ _⟩;rw[List.mem_singleton.1 b];show ¬id_ sX sV<0;decide
    ·exact List.pairwise_singleton _ _
theorem G4_ {e:l_} (h:e.props=[]):ka_ e e:=⟨rfl,rfl,rfl,rfl,List.Perm.refl _,by rw[h];exact List.Pairwise.nil⟩
theorem Ai_ (a:Int) (v:g_):k1_ (U_ a v)=true:=by
 unfold U_
 (repeat' split)<;>rfl
theorem Is_ (c:Int) {v:g_} (h:af_ v):l6_ (U_ c v)=v:=by
 have b:=h.1;rcases cd_ h with⟨a,e⟩ | ⟨a,e⟩ | ⟨a,_,e⟩ | ⟨a,e⟩
 ·rw[e];rfl
 ·rw[e];rfl
 ·rw[e];rfl
 ·generalize v.kind=k at a e;generalize v.text=t at e;generalize v.extra=x at e;subst e;rcases a with rfl | rfl | rfl | rfl
  ·rfl
  ·obtain⟨_,_,rfl,_⟩:=ni_ b;rfl
  ·obtain⟨_,_,rfl,_⟩:=qf_ b;rfl
  ·rfl
theorem t1_ (a:Int) {v:g_} (h:af_ v):ce_ (U_ a v)=(v,true):=by
 have b:=h.2.1;unfold ce_
 rw[iP_ (Ai_ a v),Is_ a h,iN_ (by
  rintro (e | e | e)
  ·omega
  ·omega
  ·rw[h.1]at e;cases e),dd_,ra_.2 rfl]
theorem stands_place {D:List g_} (f:∀v,v∈D->af_ v) {v:g_} (c:v∈D):c6_ (D.mapIdx λi v=>U_ (i:Nat) v) (bb_ D v)=v:=by
 classical
 have b:=qy_ c;have a:D[place D v]=v:=List.getElem_idxOf b;have e0:bb_ D v=((place D v:Nat):Int):=by unfold bb_;congr
 rw[e0];unfold c6_;split
 ·rename_i n e;have h1:=List.find?_some e;obtain⟨j,g,d⟩:=List.mem_mapIdx.1 (List.mem_of_find?_eq_some e);rw[<-d]at h1 ⊢;rw[dd_]at h1;have h1:((j:Nat):Int)=((place D v:Nat):Int):=by simpa using h1
  have h2:j=place D v:=by omega
  subst h2;rw[a,t1_ _ (f v c)]
 ·rename_i e;have:=List.find?_eq_none.1 e (U_ ((place D v:Nat):Int) v) (List.mem_mapIdx.2 ⟨place D v,b,by rw[a]⟩);rw[dd_]at this;simp at this
theorem z1_ {D:List g_} (d:∀v,v∈D->af_ v) {T:List e_} (e:∀t,t∈T->t.s∈D/\t.o∈D/\ou_ t.p.text=t.p) :
    (T.mapIdx λi t=>(⟨((i:Nat):Int),bb_ D t.s,bb_ D t.o,t.p.text,[]⟩:l_)).map (eu_ (D.mapIdx λi v=>U_ (i:Nat) v))=T:=by
 refine List.ext_getElem (by simp) λi h1 h2=>?_;obtain⟨a,b,c⟩:=e _ (List.getElem_mem h2);rw[List.getElem_map,List.getElem_mapIdx];unfold eu_;simp only;rw[stands_place d a,stands_place d b,c]
theorem xj_ {t:e_} (h:ch_ t=true) (d:af_ t.p):ou_ t.p.text=t.p/\a6_ t.p.text=true:=by
 unfold ch_ at h;simp only[YW,decide_eq_true_eq]at h;have c:=h.2.2.2.1;have a:=h.2.1;rcases cd_ d with⟨b,_⟩ | ⟨b,_⟩ | ⟨b,_,_⟩ | ⟨_,e⟩
 ·omega
 ·omega
 ·omega
 ·rw[c]at e;generalize t.p = v at *;generalize v.text=s at e ⊢;generalize v.extra=x at e;subst e;obtain⟨_,_,rfl,_⟩:=ni_ a;refine⟨rfl,?_⟩;rw[B2_]at a;have:=(Bool.and_eq_true_iff.1 a).1;unfold d5_ at this;rw[YW]at this;exact this.1
structure be_ (T:List e_):Prop where
 len:T.length<=65536
 may:∀t,t∈T->ch_ t=true
 scal:∀t,t∈T->cj_ t
 rise:j9_ (s_ (aa_ 0)) T
theorem B0_ {L:List e_} (h1:L.length<=65536) (h2:L.all ch_=true) (f:∀t,t∈L->OkT t):be_ (an_ (s_ (aa_ 0)) L):=by have e:=List.all_eq_true.1 h2;have d:∀t,t∈L->cj_ t:=λt ht=>bx_ (e t ht) (f t ht);have c:=ct_ (az_ (aa_ 0)) (l:=L) (λa g b hb h0=>fp_ (eb_ 0) (d a g) (d b hb) h0);exact⟨ZX (fi_ _ L) h1,λt ht=>e t ((c.2 t).1 ht),λt ht=>d t ((c.2 t).1 ht),c.1⟩
theorem H1_ {L:List e_} (h2:L.all ch_=true) (c:∀t,t∈L->OkT t) {t:e_} (ht:t∈an_ (s_ (aa_ 0)) L):t∈L:=by have g:=List.all_eq_true.1 h2;have d:∀t,t∈L->cj_ t:=λt ht=>bx_ (g t ht) (c t ht);have f:=ct_ (az_ (aa_ 0)) (l:=L) (λa e b hb h0=>fp_ (eb_ 0) (d a e) (d b hb) h0);exact (f.2 t).1 ht
section
variable {T:List e_}
theorem be_.all (h:be_ T):T.all ch_=true:=List.all_eq_true.2 h.may
theorem be_.again (h:be_ T):an_ (s_ (aa_ 0)) T=T:=by have c:=ct_ (az_ (aa_ 0)) (l:=T) (λa d b hb h0=>fp_ (eb_ 0) (h.scal a d) (h.scal b hb) h0);exact i4_ (az_ _) c.1 h.rise c.2
theorem be_.ends (h:be_ T):∀v,v∈dh_ T->af_ v:=λv a=>by
 obtain⟨t,ht,e | e⟩:=fv_ a
 ·rw[e];exact (h.scal t ht).s
 ·rw[e];exact (h.scal t ht).o
theorem be_.vals (h:be_ T):j9_ y_ (ab_ T)/\∀v,v∈ab_ T↔v∈dh_ T:=
 ct_ dp_ (l:=dh_ T) λa c b hb h0=>d9_ (h.ends a c) (h.ends b hb) h0
theorem be_.val (h:be_ T):∀v,v∈ab_ T->af_ v:=λv a=>h.ends v ((h.vals.2 v).1 a)
theorem be_.vlen (h:be_ T):(ab_ T).length<=131072:=by have h1:=fi_ y_ (dh_ T);have h2:=nh_ T;have a:=h.len;unfold ab_;omega
theorem be_.mem (h:be_ T):∀t,t∈T->t.s∈ab_ T/\t.o∈ab_ T:=λt ht=>
 ⟨(h.vals.2 _).2 (List.mem_flatMap.2 ⟨t,ht,by simp⟩),(h.vals.2 _).2 (List.mem_flatMap.2 ⟨t,ht,by simp⟩)⟩
theorem be_.fit (h:be_ T):j3_ (bn_ T):=Bu_ (ZX h.vlen (by omega)) h.len h.val h.mem (λt ht=>(h.scal t ht).p)
theorem be_.num (h:be_ T):Cq_ (bn_ T):=λn c p a=>by
 obtain⟨i,hi,e⟩:=List.mem_mapIdx.1 c;have b:=h.val _ (List.getElem_mem hi);rw[<-e]at a;generalize (ab_ T)[i]=v at b a;unfold U_ at a;split at a
 ·rw[List.mem_singleton.1 a];exact ex_ ..
 ·split at a
  ·rw[List.mem_singleton.1 a];exact ex_ ..
  ·split at a
   ·rcases List.mem_cons.1 a with e | e
    ·rw[e];exact ex_ ..
    ·rw[List.mem_singleton.1 e];exact ex_ ..
   ·rw[List.mem_singleton.1 a];exact⟨b.2.2.1,b.2.2.2⟩
theorem be_.graph (h:be_ T):dn_ (bn_ T)=true:=by
 unfold dn_;rw[YW,YW,decide_eq_true_eq];have c:(bn_ T).nodes.map i_.id=(List.range (ab_ T).length).map (λi=>((i:Nat):Int)):=by refine List.ext_getElem (by unfold bn_;simp) λi h1 h2=>?_;simp only[List.getElem_map,bn_,List.getElem_mapIdx,dd_,List.getElem_range]
 refine⟨⟨?_,?_⟩,?_,?_⟩
 ·show ((ab_ T).mapIdx _).length<=_;rw[List.length_mapIdx];exact h.vlen
 ·show (T.mapIdx _).length<=_;rw[List.length_mapIdx];exact h.len
 ·refine (f2_ ve_).2 ⟨λn g=>⟨?_,by simp⟩,ss_ _ _ i_.id (λi v=>dd_ _ _)⟩;obtain⟨i,hi,e⟩:=List.mem_mapIdx.1 g;rw[<-e];exact⟨by rw[dd_];omega,Lu_ _ (h.val _ (List.getElem_mem hi))⟩
 ·refine (f2_ (vd_ _)).2 ⟨λe f=>⟨?_,by simp⟩,ss_ _ _ l_.id (λi t=>rfl)⟩;obtain⟨i,hi,d⟩:=List.mem_mapIdx.1 f;have ht:=List.getElem_mem hi;have b:=h.mem _ ht
  have a:∀v,v∈ab_ T->bb_ (ab_ T) v∈(bn_ T).nodes.map i_.id:=λv j=>by
   rw[c];unfold bb_;classical
   exact List.mem_map.2 ⟨_,List.mem_range.2 (qy_ j),rfl⟩
  rw[<-d];exact⟨by show (0:Int)<=((i:Nat):Int);omega,a _ b.1,a _ b.2,(xj_ (h.may _ ht) (h.scal _ ht).p).2,by rfl⟩
theorem be_.srt (b:be_ T):jw_ (bn_ T) (bn_ T):=
 ⟨⟨_,sg_ (λn a=>by
     obtain⟨i,hi,e⟩:=List.mem_mapIdx.1 a;rw[<-e];exact It_ _ _),List.Perm.refl _,qh_ _ _ i_.id (λi v=>dd_ _ _)⟩,
  ⟨_,sg_ (λn a=>by
     obtain⟨i,hi,e⟩:=List.mem_mapIdx.1 a;rw[<-e];exact G4_ rfl),List.Perm.refl _,qh_ _ _ l_.id (λi t=>rfl)⟩⟩
theorem be_.plain (h:be_ T) {G:D_} (b:j8_ (bn_ T) G):G=bn_ T:=by obtain⟨c,h1,h2,a⟩:=b;have e:=Jo_ h.graph h1 h.srt;subst e;exact Ar_ h.graph h1 h2 a
theorem be_.stands (h:be_ T):∀n,n∈(bn_ T).nodes->(ce_ n).2=true:=λn a=>by
 obtain⟨i,hi,e⟩:=List.mem_mapIdx.1 a;rw[<-e,t1_ _ (h.val _ (List.getElem_mem hi))]
theorem be_.edges (h:be_ T):(bn_ T).edges.map (eu_ (bn_ T).nodes)=T:=
 z1_ h.val λt ht=>⟨(h.mem t ht).1,(h.mem t ht).2,(xj_ (h.may t ht) (h.scal t ht).p).1⟩
theorem be_.back (h:be_ T):cf_ (bn_ T)=QJ T:=by unfold cf_;rw[iP_ ⟨h.stands,by rw[h.edges];exact h.len,by rw[h.edges];exact h.all,by rw[h.edges,h.again]⟩,h.edges]
end
end
section
open Go Go.RowKit Go.Maps
theorem c0_.sownT {w:QV} {F:Nat->Prop} {l:List e_} {s:XJ} (h:c0_ 41 18 CT w l s) (c:∀g,s.ownBlock=QJ g->F g):x_ 41 18 TrR w F l s:=by obtain⟨cs,a,b⟩:=h;exact⟨cs,a,λi hi=>dx_.size (b i _ (XQ hi)),c,λi x d=>dx_.trR (b i x d) w _⟩
def ssE (A:Option Addr) (c:Nat) (B:Option Addr) (d:Nat):Nat->XJ:=λn=>if n=0 then QQ A 0 c else if n=1 then QQ QK 0 0 else QQ B 0 d
theorem Jr_ (A:Option Addr) (c:Nat) (B:Option Addr) (d:Nat) (i:Nat):∃X q,ssE A c B d i = QQ X 0 q:=by
 unfold ssE;split
 ·exact⟨_,_,rfl⟩
 ·split
  ·exact⟨_,_,rfl⟩
  ·exact⟨_,_,rfl⟩
theorem Gb_ (a:List i_) (e:l_) (A:Option Addr) (c:Nat) (B:Option Addr) (d:Nat) (W:QV):(Instr.build 41 #[(0,.agg (c_ (c6_ a e.src) (QQ A 0 c))),(1,.agg (c_ (ou_ e.type) (QQ QK 0 0))),(2,.agg (c_ (c6_ a e.dst) (QQ B 0 d)))]).run QW W = .ok (.agg (N_ (eu_ a e) (ssE A c B d))) W:=
 na_ (eu_ a e) (ssE A c B d) W
theorem st_ {T:List e_} (h:be_ T):((bn_ T).nodes.length<=1000000000/\(bn_ T).edges.length<=1000000000)/\∀n,n∈(bn_ T).nodes->n.labels.length<=1000000000/\n.props.length<=1000000000/\∀p,p∈n.props->p.v.list=[]:=by
 refine⟨⟨?_,?_⟩,λn a=>?_⟩
 ·show ((ab_ T).mapIdx _).length<=_;rw[List.length_mapIdx];have:=h.vlen;omega
 ·show (T.mapIdx _).length<=_;rw[List.length_mapIdx];have:=h.len;omega
 ·obtain⟨i,hi,e⟩:=List.mem_mapIdx.1 a;rw[<-e];exact⟨(nl_ _ _).1,(nl_ _ _).2,qu_ _ (g8_ (h.val _ (List.getElem_mem hi)))⟩
theorem xc_ {T:List e_}:∀e,e∈(bn_ T).edges->e.props=[]:=λe a=>by
 obtain⟨i,hi,e⟩:=List.mem_mapIdx.1 a;rw[<-e]
theorem Nd_ (t:ByteArray) (W:QV):(Instr.build 39 #[(0,QY QU 8),(3,QZ t)]).run QW W = .ok (.agg (c_ (ou_ t) (QQ QK 0 0))) W:=o2_ 8 t W
theorem vr_ (g:D_) (bb:j3_ g) (F:Nat->Prop) (u:XJ) (w:QV) (hF:∀b,F b->b<w.heap.size) (hg:GrR w F g u) (co:Cq_ g) (cl:ad_ w) (dx:ci_ w) :
    Calls QW 29 #[u] w (sf_ g w):=by
 have c7:=q_ (λ(W:QV) (hb:XW w.heap.size w W)=>w6_ g bb F u W (λb k=>XZ (hF b k) hb.size) (hg.under hb hF) (j_ cl hb));unfold sq_ at c7;have HG:=q_ cl;have f3:=q_ dx;have eo:=q_ co;have V:=q_ bb;obtain⟨NV,EV,rfl,⟨AN,cN,rfl,_,_⟩,AE,cE,rfl,_,_⟩:=hg;obtain⟨n1,fv⟩:=a_ g.nodes.length;obtain⟨n2,fw⟩:=a_ g.edges.length;rw[fv.o,fw.o]at c7 ⊢;obtain⟨z,Hz⟩:=a_ w.heap.size;obtain⟨w1,bj⟩:=a_ (w.alloc (XX #[QQ AN n1 cN,QQ AE n2 cE] 54));have bs:=q_ (show XW w.heap.size w w1 from by rw[<-bj.o];exact (XV _ _).alloc (XK _) _);have fu:=q_ (show w1.heap[z]?=QJ (XX #[QQ AN n1 cN,QQ AE n2 cE] 54 (0,0)) from by rw[<-bj.o,<-Hz.o];exact XU w _);clear bb cl dx co hF;go_enter func29,ntmps29
 go_upto_region 1 with fail;rw[bj.o,Hz.o];clear bj;go_wp2_with ((with_reducible refine d_ (some 17) ?_);refine G_ rfl 54 _ rfl z 0 rfl (#[QQ AN n1 cN,QQ AE n2 cE]) _ (m_ fu.o) underlying54 rfl (P_ _ _) ?_)
 refine (c7.o w1 bs.o).mono ?_;rintro e w2 ⟨hb,g3⟩;have bc:=q_ (bs.o.trans (hb.mono bs.o.size));rcases g3 with⟨hm,rfl⟩ | ⟨hm,p,g',rfl,a9,bo⟩
 ·have HM:=q_ hm;clear hm hb;go_wp2_with fail;go_ret2;exact⟨bc.o,.inl ⟨HM.o,rfl⟩⟩
 ·have HM:=q_ hm;have fn:=q_ bo;obtain⟨Ns,Es,mh,mt,ma,g4,n0,a9⟩:=a9;have cu:=q_ (uv_ V.o bo);have da:=q_ (o9_ hm bo);have cp:=q_ (Ee_ g' _ p Ns Es mh mt ma g4 n0 w2 a9 cu.o (w4_ da.o).1 (w4_ da.o).2);unfold Bg_ at cp;clear hm bo a9 hb;go_wp2_with fail;refine cp.o.mono ?_;rintro e r ⟨A,c,B,d,s,y,rfl,dt,a7,dq,dr⟩;have M:=q_ (show j8_ g ⟨s,y⟩ from ⟨g',fn.o,dq,dr⟩);have d4:=q_ a7;have bt:=q_ (bc.o.trans (dt.mono bc.o.size));obtain⟨m1,ap⟩:=a_ s.length;obtain⟨N,ae⟩:=a_ y.length;rw[ap.o,ae.o]at d4 ⊢;have fs:=q_ (show w.heap.size<=w2.heap.size from bc.o.size)
  have fi:=q_ (show SRd 3 NoR r (λb=>w2.heap.size<=b/\b<r.heap.size) s A m1 from by
   obtain⟨_,_,e,h1,h2⟩:=a7
   cases e;rw[<-ap.o];exact h1.rd)
  have fh:=q_ (show SRd 5 EdR r (λb=>w2.heap.size<=b/\b<r.heap.size) y B N from by
   obtain⟨_,_,e,h1,h2⟩:=a7
   cases e;rw[<-ae.o];exact h2.rd)
  clear dt a7 dq dr cp;obtain⟨z6,aq⟩:=a_ r.heap.size;obtain⟨wa,f⟩:=a_ (r.alloc (XX #[QQ QK 0 0,QQ QK 0 0] 54));have G:=q_ (show XW r.heap.size r wa from by rw[<-f.o];exact (XV _ _).alloc (XK _) _);have C:=q_ (show wa.heap[z6]?=QJ (XX #[QQ QK 0 0,QQ QK 0 0] 54 (0,0)) from by rw[<-f.o,<-aq.o];exact XU r _);go_upto_region 5 with ((with_reducible refine w_ 6 ?_);rw[f.o,aq.o];refine o_ rfl 54 _ _ rfl z6 (#[QQ QK 0 0,QQ QK 0 0]) (#[QQ A m1 c,QQ B N d]) 54 rfl rfl C.o rfl (P_ _ _) (cz_ _ _ _ _ _ _) ?_;intro w4 bp e6)
  have bu:=q_ (show XW r.heap.size r w4 from h_ G.o e6 (λb e=>by have e:b=z6:=e;have h2:r.heap.size=z6:=aq.o;omega));obtain⟨m,Hm⟩:=a_ w4.heap.size;obtain⟨w5,bk⟩:=a_ (w4.alloc (.map #[] 0));have fe:=q_ (show (Instr.makeMap 134 QK).run QW w4 = .ok (.map (QJ m)) w5 from by rw[<-bk.o,<-Hm.o];exact Ls_ w4);have bz:=q_ (show XW w4.heap.size w4 w5 from by rw[<-bk.o];exact (XV _ _).alloc (XK _) _);have cc:=q_ ((bz.o.block z6 (b_ bp)).trans bp);have cb:=q_ (show StM w5 m [] from StM.fresh (by rw[<-bk.o,<-Hm.o];exact XU w4 _));have J:=q_ (show XW r.heap.size r w5 from bu.o.trans (bz.o.mono bu.o.size));have cz:=q_ (show XW w.heap.size w w5 from bt.o.trans (J.o.mono bt.o.size));have ai:=q_ (show r.heap.size=z6/\z6<m/\m<w5.heap.size/\w.heap.size<=w2.heap.size/\w.heap.size<=r.heap.size from ⟨aq.o,by have:=b_ bp;have h2:w4.heap.size=m:=Hm.o;omega,cb.o.lt,fs.o,bt.o.size⟩);have aj:=q_ (show m1<=2000000/\N<=2000000 from by obtain⟨g7,h1,h2,h3⟩:=M.o;have hl:=Jq_ h1;have h4:=h2.1;have h5:=h3.1;have h6:=V.o.1;have h7:=V.o.2.1;have h8:s.length=m1:=ap.o;have h9:y.length=N:=ae.o;simp only at h4 h5;omega);clear bp e6 f C G bk aq Hm;go_upto_region 6 with ((with_reducible refine d_ (some 25) ?_);refine Io_ rfl 134 rfl m _ fe.o ?_)
  have x0:w5.cell? ⟨z6,0,QK⟩=QJ (QQ A m1 c):=QX cc.o 0;go_wp2_with fail;clear x0;go_loopw [29] (λcr x=>∃k:Nat,k<=m1/\cr = QY QU (k:Nat)/\Q_ (∃l,Turn (λb=>b=m\/w5.heap.size<=b) w5 x/\StM x m l/\b1_ se_ (s.take k) l)) (λcr _=>m1-(intOf cr).toNat)
  case atStart=>exact⟨0,by omega,rfl,q_ ⟨[],Turn.refl _ _,cb.o,b1_.nil _⟩⟩
  case round=>
   rename QV=>x
   obtain⟨k,hk,rfl,hR⟩:=hrel;obtain⟨l,ht,a9,ds⟩:=hR.o;have X:=q_ ht;have fr:=q_ ht;have dc:=q_ a9;have br:=q_ ds;have a5:=q_ (show XW w.heap.size w x from h_ cz.o ht (λb h=>by have h1:=ai.o;have h2:=cz.o.size;rcases h with h | h<;>omega))
   have c4:=q_ (show ∀p:Addr,p.block<r.heap.size->x.cell? p=r.cell? p from λp hp=>(X.o.cell (XZ hp J.o.size) (λh=>by have h1:=ai.o;have h2:=J.o.size;rcases h with h | h<;>omega)).trans (J.o.cell hp))
   have b6:=q_ ((X.o.block z6 (b_ cc.o) (λh=>by have h1:=ai.o;rcases h with h | h<;>omega)).trans cc.o)
   clear hR ht a9 ds;by_cases Z:k<m1
   ·have a1:(0:Int)<=k:=by omega
    have a2:(k:Int)<m1:=by omega
    have cm:=aj.o;have g6:IntKind.i64.wrap ((k:Int)+1)=(k:Int)+1:=YU _ (by omega);clear cm;have d9:=q_ Z;obtain⟨nd,bn⟩:∃nd,s[k]?=QJ nd:=⟨_,XQ (by rw[ap.o];exact Z)⟩;have c9:=q_ bn;have d3:=q_ ((ht_ V.o M.o).2.2.1 nd (YZ bn));obtain⟨ad,cn,rfl,ar,a0,dv,a8⟩:=fi.o.at_ bn;have fg:=q_ (λ(W:QV) (hW:∀p:Addr,p.block<r.heap.size->W.cell? p=r.cell? p)=>(show NoR W (λb=>w2.heap.size<=b/\b<r.heap.size) nd cn from NoR.good.keep a8 (λp hp=>hW p hp.2)));have LN:=q_ (λj (hj:j<cn.size)=>(show x.cell? ((ad.add (k*3)).add j)=cn[j]? from by rw[add_of_add,c4.o _ (by rw[A_];exact ar.2)];exact dv j (by rw[a0]at hj;exact hj)));have IN:=q_ (show (Tryz.prog.info? 72).map (·.size)=QJ cn.size from u6_.trans (congrArg QJ a0.symm));have ON:=q_ (vb_ a8);have SN:=q_ (show cn.size=(#[QY QU 0,QQ QK 0 0,QQ QK 0 0]:Array XJ).size from a0);have ev:=q_ (show cn[0]?=QJ (QY QU nd.id) from by obtain⟨_,_,e,_⟩:=a8;rw[e];rfl);clear Z bn ar a0 dv a8;obtain⟨z9,ci⟩:=a_ x.heap.size;obtain⟨wa,f⟩:=a_ (x.alloc (XX #[QY QU 0,QQ QK 0 0,QQ QK 0 0] 72));have G:=q_ (show XW x.heap.size x wa from by rw[<-f.o];exact (XV _ _).alloc (XK _) _);have C:=q_ (show wa.heap[z9]?=QJ (XX #[QY QU 0,QQ QK 0 0,QQ QK 0 0] 72 (0,0)) from by rw[<-f.o,<-ci.o];exact XU x _)
    go_upto_region 9 with (first
     | ((with_reducible refine d_ (some 32) ?_);refine C_ (by rfl) 72 _ rfl rfl cn _ LN.o underlying72 rfl IN.o ?_)
     | ((with_reducible refine w_ 9 ?_);rw[f.o,ci.o];refine o_ rfl 72 _ _ rfl z9 (#[QY QU 0,QQ QK 0 0,QQ QK 0 0]) cn 72 rfl rfl C.o SN.o IN.o ON.o ?_;intro O aw au))
    have a6:=q_ aw;have a4:=q_ (show XW x.heap.size x O from h_ G.o au (λb e=>by have e:b=z9:=e;have h2:x.heap.size=z9:=ci.o;omega));have ez:=q_ (a5.o.trans (a4.o.mono a5.o.size));have de:=q_ (show r.heap.size<=x.heap.size from ZX J.o.size X.o.size);have ei:=q_ (show ∀p:Addr,p.block<r.heap.size->O.cell? p=r.cell? p from λp hp=>(a4.o.cell (XZ hp de.o)).trans (c4.o p hp));clear aw au f C LN;obtain⟨id,L,P⟩:=nd;have bi:=q_ (E9_ id L P (λb=>w2.heap.size<=b/\b<r.heap.size) cn O (λb h=>XZ h.2 (ZX de.o a4.o.size)) (fg.o O ei.o) (j_ HG.o ez.o) d3.o.1);unfold ud_ at bi;obtain⟨tv,dg⟩:=a_ (ce_ ⟨id,L,P⟩).1;obtain⟨tb,ch⟩:=a_ (ce_ ⟨id,L,P⟩).2;rw[dg.o,ch.o]at bi;go_wp2_with ((with_reducible refine d_ (some 34) ?_);refine G_ rfl 72 _ rfl z9 0 rfl cn _ (m_ a6.o) underlying72 rfl IN.o ?_)
    refine bi.o.mono ?_;rintro e wc ⟨At,ct,rfl,cj⟩;obtain⟨cv,ao⟩:=L_ tv (QQ At 0 ct);rw[ao.o];have dl:=q_ (a2_.trans (congrArg QJ ao.size.symm));have g0:=q_ (show cv.all (·.oneCell')=true from by rw[<-ao.o];kernel_rfl);have d0:=q_ cj;have b4:=q_ ((cj.block z9 (b_ a6.o)).trans a6.o);clear cj bi;obtain⟨ay,b9⟩:=a_ wc.heap.size;obtain⟨wd,bl⟩:=a_ (wc.alloc (XX #[QY QU 0,XY false,QY QU 0,QZ ⟨#[]⟩,QZ ⟨#[]⟩,QQ QK 0 0] 39));have ew:=q_ (show XW wc.heap.size wc wd from by rw[<-bl.o];exact (XV _ _).alloc (XK _) _);have d5:=q_ (show wd.heap[ay]?=QJ (XX #[QY QU 0,XY false,QY QU 0,QZ ⟨#[]⟩,QZ ⟨#[]⟩,QQ QK 0 0] 39 (0,0)) from by rw[<-bl.o,<-b9.o];exact XU wc _);go_upto_region 10 with ((with_reducible refine w_ 10 ?_);rw[bl.o,b9.o];refine o_ rfl 39 _ _ rfl ay (#[QY QU 0,XY false,QY QU 0,QZ ⟨#[]⟩,QZ ⟨#[]⟩,QQ QK 0 0]) cv 39 rfl rfl d5.o ao.size dl.o g0.o ?_;intro we ea e7)
    have fb:=q_ ea;have d1:=q_ (show XW wc.heap.size wc we from h_ ew.o e7 (λb e=>by have e:b=ay:=e;have h2:wc.heap.size=ay:=b9.o;omega));have ej:=q_ ((d1.o.block z9 (b_ b4.o)).trans b4.o);have az:=q_ (show XW x.heap.size x we from a4.o.trans ((d0.o.trans (d1.o.mono d0.o.size)).mono a4.o.size));have ef:=q_ (show XW w.heap.size w we from a5.o.trans (az.o.mono a5.o.size));clear ea e7 bl d5 b4
    cases tb with
    | false=>
     have ak:=q_ (show cf_ ⟨s,y⟩=QK from by
      unfold cf_;rw[iN_];rintro⟨h,_⟩;have:=h _ (YZ c9.o);rw[ch.o]at this
      cases this)
     go_wp2_with fail;go_ret2;exact⟨ef.o,.inr ⟨HM.o,_,M.o,.inl ⟨ak.o,rfl⟩⟩⟩
    | true=>
     have ft:=q_ (show VI id from d3.o.2);have em:=q_ (show id∉l.map (·.1) from by rw[Ju_ br.o];exact rg_ (qs_ (Ao_ HM.o M.o)) c9.o);have e0:we.cell? ⟨z9,0,QK⟩=QJ (QY QU id):=(QX ej.o 0).trans ev.o;obtain⟨wf,cq,e5,e8⟩:=E5_ (dc.o.on az.o) ft.o em.o (.agg cv);have ep:=q_ cq;have fk:=q_ e5;have fo:=q_ e8;have fm:=q_ (show se_ ⟨id,L,P⟩ (id,.agg cv) from ⟨rfl,ch.o,At,ct,by rw[dg.o,ao.o]⟩);clear cq e5 e8
     go_wp2_with (first
      | ((with_reducible refine d_ (some 43) ?_);refine G_ rfl 39 _ rfl ay 0 rfl cv _ (m_ fb.o) YV rfl dl.o ?_)
      | (at_mapUpdate;refine Nt_ rfl 134 _ _ _ rfl _ _ _ rfl rfl rfl wf ep.o ?_))
     go_roundw
     case rel=>exact⟨k+1,by have:=d9.o;omega,by go_num,q_ ⟨l++[(id,.agg cv)],(X.o.trans (Turn.ofB az.o)).trans (fo.o.mono (λi _ e=>.inl e)),fk.o,by rw[f_ c9.o];exact br.o.snoc fm.o⟩⟩
     case measure=>have:=d9.o;simp[intOf];omega
   ·have a2:¬(k:Int)<m1:=by omega
    have ag:=q_ (show b1_ se_ s l from by have h:=br.o;rwa [YJ (by have h2:s.length=m1:=ap.o;omega)]at h);have b5:=q_ (show ∀n,n∈s->(ce_ n).2=true/\rm_ n/\∀p,p∈n.props->ub_ p.v from λn hn=>⟨by obtain⟨i,hi,e⟩:=List.mem_iff_getElem.1 hn;have hl:=ag.o.1;exact (ag.o.2 i n _ (by rw[<-e];exact XQ hi) (XQ (by omega))).2.1,((ht_ V.o M.o).2.2.1 n hn).1,Ap_ eo.o M.o n hn⟩);obtain⟨i0,dy,eb,ec,ee⟩:=info_parts o7_;have f6:=q_ dy;have f8:=q_ eb;have f7:=q_ ec;have f5:=q_ ee;clear dy eb ec ee;have x1:x.cell? ⟨z6,1,QK⟩=QJ (QQ B N d):=QX b6.o 1;clear Z;have f1:=q_ (show LdP 41 18 CT x ((y.take 0).map (eu_ s)) (QQ QK 0 0) x from LdP.start x);go_wp2_with fail;clear a2 x1;go_loopw [12,48] (λg5 cs D=>∃(j:Nat) (S:XJ),j<=N/\cs = QY QU (j:Nat)/\S=g5/\Q_ (LdP 41 18 CT x ((y.take j).map (eu_ s)) S D)) (λ_ cs _=>N-(intOf cs).toNat)
    case atStart=>exact⟨0,_,by omega,rfl,rfl,q_ f1.o⟩
    case round=>
     rename QV=>D
     obtain⟨j,S,hj,rfl,rfl,bm⟩:=hrel;have E:=q_ bm.o;have ab:=q_ (show XW x.heap.size x D from bm.o.hb);have fd:=q_ (show ∀p:Addr,p.block<r.heap.size->D.cell? p=r.cell? p from λp hp=>(bm.o.hb.cell (XZ hp (ZX J.o.size X.o.size))).trans (c4.o p hp));clear bm;by_cases Z:j<N
     ·have a1:(0:Int)<=j:=by omega
      have a2:(j:Int)<N:=by omega
      have cm:=aj.o;have g6:IntKind.i64.wrap ((j:Int)+1)=(j:Int)+1:=YU _ (by omega);clear cm;have c8:=q_ Z;obtain⟨I,af⟩:∃I,y[j]?=QJ I:=⟨_,XQ (by rw[ae.o];exact Z)⟩;have f2:=q_ af;have c2:=q_ ((ht_ V.o M.o).2.2.2 I (YZ af));obtain⟨bd,ce,rfl,ar,a0,du,ck⟩:=fh.o.at_ af;have LE:=q_ (λi (hi:i<ce.size)=>(show D.cell? ((bd.add (j*5)).add i)=ce[i]? from by rw[add_of_add,fd.o _ (by rw[A_];exact ar.2)];exact du i (by rw[a0]at hi;exact hi)));have IE:=q_ (show (Tryz.prog.info? 74).map (·.size)=QJ ce.size from Aa_.trans (congrArg QJ a0.symm));have OE:=q_ (ur_ ck);have SE:=q_ (show ce.size=(#[QY QU 0,QY QU 0,QY QU 0,QZ ⟨#[]⟩,QQ QK 0 0]:Array XJ).size from a0);obtain⟨Pe,qe,dp⟩:=qa_ ck;have c0:=q_ dp;clear Z af ar a0 du ck dp;obtain⟨aa,ba⟩:=a_ D.heap.size;obtain⟨wa,f⟩:=a_ (D.alloc (XX #[QY QU 0,QY QU 0,QY QU 0,QZ ⟨#[]⟩,QQ QK 0 0] 74));have G:=q_ (show XW D.heap.size D wa from by rw[<-f.o];exact (XV _ _).alloc (XK _) _);have C:=q_ (show wa.heap[aa]?=QJ (XX #[QY QU 0,QY QU 0,QY QU 0,QZ ⟨#[]⟩,QQ QK 0 0] 74 (0,0)) from by rw[<-f.o,<-ba.o];exact XU D _)
      go_upto_region 18 with (first
       | ((with_reducible refine d_ (some 51) ?_);refine C_ (by rfl) 74 _ rfl rfl ce _ LE.o underlying74 rfl IE.o ?_)
       | ((with_reducible refine w_ 14 ?_);rw[f.o,ba.o];refine o_ rfl 74 _ _ rfl aa (#[QY QU 0,QY QU 0,QY QU 0,QZ ⟨#[]⟩,QQ QK 0 0]) ce 74 rfl rfl C.o SE.o IE.o OE.o ?_;intro O aw au))
      have a6:=q_ aw;have a4:=q_ (show XW D.heap.size D O from h_ G.o au (λb e=>by have e:b=aa:=e;have h2:D.heap.size=aa:=ba.o;omega));have db:=q_ (show StM O m l from dc.o.on (ab.o.trans (a4.o.mono ab.o.size)));obtain⟨src,b8⟩:=a_ I.src;obtain⟨dst,b7⟩:=a_ I.dst;obtain⟨ty,dh⟩:=a_ I.type;have b1:O.cell? ⟨aa,1,QK⟩=QJ (QY QU src):=(QX a6.o 1).trans (by rw[c0.o,<-b8.o];rfl);have b2:O.cell? ⟨aa,2,QK⟩=QJ (QY QU dst):=(QX a6.o 2).trans (by rw[c0.o,<-b7.o];rfl);have b3:O.cell? ⟨aa,3,QK⟩=QJ (QZ ty):=(QX a6.o 3).trans (by rw[c0.o,<-dh.o];rfl);have d6:=q_ (tv_ db.o (show VI src from by rw[<-b8.o];exact c2.o.2.2.1));have d7:=q_ (tv_ db.o (show VI dst from by rw[<-b7.o];exact c2.o.2.2.2));clear aw au f C LE;obtain⟨B1,q1,e1⟩:=sy_ ag.o I.src;obtain⟨B2,q2,e2⟩:=sy_ ag.o I.dst;obtain⟨u0,di⟩:=L_ (c6_ s I.src) (QQ B1 0 q1);obtain⟨u1,dj⟩:=L_ (ou_ I.type) (QQ QK 0 0);obtain⟨u2,dk⟩:=L_ (c6_ s I.dst) (QQ B2 0 q2);obtain⟨ct,cg⟩:=ba_ (eu_ s I) (ssE B1 q1 B2 q2);have ex:=q_ (λW:QV=>(show (Instr.build 41 #[(0,.agg u0),(1,.agg u1),(2,.agg u2)]).run QW W = .ok (.agg ct) W from by rw[<-di.o,<-dj.o,<-dk.o,<-cg.o];exact Gb_ s I B1 q1 B2 q2 W));have ey:=q_ (λW:QV=>(show (Instr.build 39 #[(0,QY QU 8),(3,QZ ty)]).run QW W = .ok (.agg u1) W from by rw[<-dj.o,<-dh.o];exact Nd_ I.type W));have f9:=q_ (show (Instr.lookup 134 (.map (QJ m)) (QY QU src) false).run QW O = .ok (.agg u0) O from by rw[d6.o,<-b8.o,e1,di.o]);have fa:=q_ (show (Instr.lookup 134 (.map (QJ m)) (QY QU dst) false).run QW O = .ok (.agg u2) O from by rw[d7.o,<-b7.o,e2,dk.o]);have f0:=q_ (show dx_ ct (eu_ s I) from ⟨(wp_ b5.o (show I.type.size<=2000000 from c2.o.1.1)).2,_,λi _=>Jr_ B1 q1 B2 q2 i,cg.o.symm⟩);have g1:=q_ cg.size;have d8:=q_ (E.o.on a4.o);have c6:=q_ (d8.o.on ((XV _ _).alloc (XK _) (XX ct 41)));have df:=q_ (no_ T_ f0.o O 41);have ek:=q_ (show ((y.take j).map (eu_ s)).length<=2000000 from by rw[List.length_map,UJ];have:=aj.o;have:=c8.o;omega);clear e1 e2 d6 d7
      go_upto_region 19 with (first
       | ((with_reducible refine d_ (some 56) ?_);refine Ic_ rfl 134 _ _ rfl (.map (QJ m)) (QY QU src) rfl rfl _ f9.o ?_)
       | ((with_reducible refine d_ (some 59) ?_);refine W_ rfl 39 _ rfl #[(0,QY QU 8),(3,QZ ty)] (by kernel_rfl) (.agg u1) (ey.o _) ?_)
       | ((with_reducible refine d_ (some 63) ?_);refine Ic_ rfl 134 _ _ rfl (.map (QJ m)) (QY QU dst) rfl rfl _ fa.o ?_)
       | ((with_reducible refine d_ (some 64) ?_);refine W_ rfl 41 _ rfl #[(0,.agg u0),(1,.agg u1),(2,.agg u2)] (by kernel_rfl) (.agg ct) (ex.o _) ?_)
       | ((with_reducible refine d_ (some 65) ?_);refine b6_ rfl 22 1 _ rfl #[(0,.agg ct)] (by kernel_rfl) (QQ (QJ ⟨O.heap.size,0,QK⟩) 1 1) _ (jc_ ct g1.o O) ?_)
       | ((with_reducible refine d_ (some 66) ?_);refine ae_ T_ rfl (.tmp 52) (.tmp 65) 22 rfl i0 _ underlying22 f6.o f8.o f7.o f5.o rfl (by decide) rfl c6.o.own rfl rfl df.o (λh=>by cases h) (by have:=ek.o;omega) (by decide) ?_;intro v1 y1 dz dw e9))
      have f4:=q_ (c6.o.app dz dw e9);clear dz dw e9 c6 d8 df;go_wp2_with fail;go_roundw
      case rel=>exact⟨j+1,_,by have:=c8.o;omega,by go_num,rfl,q_ (by rw[f_ f2.o,List.map_append];exact f4.o)⟩
      case measure=>have:=c8.o;simp[intOf];omega
     ·have a2:¬(j:Int)<N:=by omega
      have fq:=q_ (show y.take j=y from YJ (by have h2:y.length=N:=ae.o;omega));rw[fq.o]at E;clear Z;obtain⟨T,X⟩:=a_ (y.map (eu_ s));rw[X.o]at E;have dd:=q_ (show T.length=N from by rw[<-X.o,List.length_map];exact ae.o);obtain⟨A5,c5,rfl,g2,eu⟩:∃A c,S = QQ A N c/\N<=c/\(A=QK->c=0):=by obtain⟨A,c,e,h1,h2⟩:=E.o.own.form;rw[dd.o]at e h1;exact⟨A,c,e,h1,h2⟩
      have ca:=q_ (show ∀t,t∈T->OkT t from λt ht=>by
       rw[<-X.o]at ht;obtain⟨I,af,rfl⟩:=List.mem_map.1 ht;exact (wp_ b5.o ((ht_ V.o M.o).2.2.2 I af).1.1).1)
      have eq:=q_ ((E.o.own.rd T_ (F:=λb=>b<D.heap.size) (λb hb=>E.o.own.lt hb) dd.o).imp (R':=TrR) (λ_ h=>h) (λt c h=>dx_.trR h D _));have ac:=q_ (show XW w.heap.size w D from a5.o.trans (ab.o.mono a5.o.size));have c3:=q_ (nj_ T ca.o (λb=>b<D.heap.size) A5 N c5 D (λ_ h=>h) eq.o (by have:=aj.o;omega) (j_ HG.o ac.o) (K_ f3.o ac.o));have cf:=q_ ((ab.o.block z6 (b_ b6.o)).trans b6.o);have fj:=q_ (show ∀wz:QV,XW D.heap.size D wz->x_ 41 18 TrR wz (λb=>w.heap.size<=b/\b<wz.heap.size) T (QQ A5 N c5) from λwz hz=>c0_.sownT (E.o.own.on hz) (λg hg=>⟨ZX a5.o.size (E.o.ow g hg),XZ (E.o.own.lt hg) hz.size⟩))
      have fp:=q_ (show cf_ ⟨s,y⟩=QK\/(T.length<=65536/\T.all ch_=true) from by
       by_cases h:T.length<=65536/\T.all ch_=true
       ·exact .inr h
       ·refine .inl ?_;unfold cf_;rw[iN_];rintro⟨_,h1,h2,_⟩;rw[X.o]at h1 h2;exact h ⟨h1,h2⟩)
      have el:=q_ (show ∀n,n∈s->(ce_ n).2=true from λn hn=>(b5.o n hn).1);unfold he_ at c3;clear hj g2 eu;go_wp2_with fail;clear a2;refine c3.o.mono ?_;rintro e R (⟨a8,rfl,hb⟩ | ⟨h1,h2,GN,GE,rfl,a7,hb⟩)
      ·have ak:=q_ (show cf_ ⟨s,y⟩=QK from fp.o.elim id (λh=>absurd h a8));have am:=q_ (ac.o.trans (hb.mono ac.o.size));clear a8 hb;obtain⟨a3,Y⟩:=a_ R.heap.size;obtain⟨wa,f⟩:=a_ (R.alloc (XX #[QQ QK 0 0,QQ QK 0 0] 54));have G:=q_ (show XW R.heap.size R wa from by rw[<-f.o];exact (XV _ _).alloc (XK _) _);have C:=q_ (show wa.heap[a3]?=QJ (XX #[QQ QK 0 0,QQ QK 0 0] 54 (0,0)) from by rw[<-f.o,<-Y.o];exact XU R _);go_upto_region 21 with ((with_reducible refine w_ 15 ?_);rw[f.o,Y.o];refine o_ rfl 54 _ _ rfl a3 (#[QQ QK 0 0,QQ QK 0 0]) (#[QQ QK 0 0,QQ QK 0 0]) 54 rfl rfl C.o rfl (P_ _ _) (cz_ _ _ _ _ _ _) ?_;intro wh bq av)
       have bf:=q_ (show XW w.heap.size w wh from am.o.trans ((show XW R.heap.size R wh from h_ G.o av (λb e=>by have e:b=a3:=e;have h2:R.heap.size=a3:=Y.o;omega)).mono am.o.size));clear bq av f C G;go_wp2_with fail;go_ret2;exact⟨bf.o,.inr ⟨HM.o,_,M.o,.inl ⟨ak.o,rfl⟩⟩⟩
      ·have bh:=q_ (And.intro h1 h2);have eh:=q_ a7;obtain⟨N',E',e,⟨cy,dn,eN,_,_⟩,⟨cx,dm,eE,_,_⟩⟩:=a7;obtain⟨nN,fy⟩:=a_ (bn_ (an_ (s_ (aa_ 0)) T)).nodes.length;obtain⟨nE,fx⟩:=a_ (bn_ (an_ (s_ (aa_ 0)) T)).edges.length;rw[fy.o]at eN;rw[fx.o]at eE;subst eN;subst eE;injection e with e;have e3:=congrArg (λa:Array XJ=>a[0]?) e;have e4:=congrArg (λa:Array XJ=>a[1]?) e;simp at e3 e4;subst e3;subst e4;have ah:=q_ hb;have am:=q_ (ac.o.trans (hb.mono ac.o.size));have cd:=q_ ((hb.block z6 (b_ cf.o)).trans cf.o);clear hb h1 h2 e;obtain⟨a3,Y⟩:=a_ R.heap.size;obtain⟨wa,f⟩:=a_ (R.alloc (XX #[QQ QK 0 0,QQ QK 0 0] 54));have G:=q_ (show XW R.heap.size R wa from by rw[<-f.o];exact (XV _ _).alloc (XK _) _);have C:=q_ (show wa.heap[a3]?=QJ (XX #[QQ QK 0 0,QQ QK 0 0] 54 (0,0)) from by rw[<-f.o,<-Y.o];exact XU R _);go_upto_region 21 with ((with_reducible refine w_ 15 ?_);rw[f.o,Y.o];refine o_ rfl 54 _ _ rfl a3 (#[QQ QK 0 0,QQ QK 0 0]) (#[QQ cy nN dn,QQ cx nE dm]) 54 rfl rfl C.o rfl (P_ _ _) (cz_ _ _ _ _ _ _) ?_;intro wh bq av)
       have U:=q_ (show XW R.heap.size R wh from h_ G.o av (λb e=>by have e:b=a3:=e;have h2:R.heap.size=a3:=Y.o;omega));have bf:=q_ (am.o.trans (U.o.mono am.o.size));have fc:=q_ bq;have er:=q_ ((U.o.block z6 (b_ cd.o)).trans cd.o);have bx:=q_ (show XW r.heap.size r x from h_ J.o fr.o (λb h=>by have h1:=ai.o;have h2:=J.o.size;rcases h with h | h<;>omega))
       have bw:=q_ (show XW r.heap.size r wh from bx.o.trans ((ab.o.trans ((ah.o.trans (U.o.mono ah.o.size)).mono ab.o.size)).mono bx.o.size));have bg:=q_ (B0_ bh.o.1 bh.o.2 ca.o);have c1:=q_ (z4_ (bn_ (an_ (s_ (aa_ 0)) T)) ⟨s,y⟩ _ _ _ _ wh (λb h=>XZ h.2 U.o.size) (λb h=>XZ h.2 bw.o.size) (eh.o.under U.o (λb h=>h.2)) (d4.o.under bw.o (λb h=>h.2)) (st_ bg.o).1 (st_ bg.o).2);unfold n_ at c1;have b0:=q_ (show ns_ (bn_ (an_ (s_ (aa_ 0)) T)) ⟨s,y⟩=true↔bn_ (an_ (s_ (aa_ 0)) T)=⟨s,y⟩ from A1_ xc_)
       have cw:=q_ (show bn_ (an_ (s_ (aa_ 0)) T)=⟨s,y⟩->cf_ ⟨s,y⟩=QJ T from λh=>by
        unfold cf_;rw[iP_ ⟨el.o,by rw[X.o];exact bh.o.1,by rw[X.o];exact bh.o.2,by rw[X.o];exact h⟩,X.o])
       have en:=q_ (show bn_ (an_ (s_ (aa_ 0)) T)≠⟨s,y⟩->cf_ ⟨s,y⟩=QK from λh=>by
        unfold cf_;rw[iN_];rintro⟨_,_,_,h1⟩;rw[X.o]at h1;exact h h1)
       have et:=q_ (nq_ fc.o);have fz:=q_ (nq_ er.o);obtain⟨q,Hq⟩:=a_ (ns_ (bn_ (an_ (s_ (aa_ 0)) T)) ⟨s,y⟩);rw[Hq.o]at c1 b0;clear bq av f C G
       go_wp2_with (first
        | ((with_reducible refine d_ (some 76) ?_);refine C_ (by rfl) 54 _ rfl rfl (#[QQ cy nN dn,QQ cx nE dm]) _ et.o underlying54 rfl (P_ _ _) ?_)
        | ((with_reducible refine d_ (some 77) ?_);refine C_ (by rfl) 54 _ rfl rfl (#[QQ A m1 c,QQ B N d]) _ fz.o underlying54 rfl (P_ _ _) ?_))
       refine c1.o.mono ?_;rintro e wi ⟨rfl,hb⟩;have d2:=q_ (bf.o.trans (hb.mono bf.o.size));have eg:=q_ (ah.o.trans ((U.o.trans (hb.mono U.o.size)).mono ah.o.size));clear hb
       cases q with
       | true=>
        have fl:=q_ (cw.o (b0.o.1 rfl));go_wp2_with fail;go_ret2;exact⟨d2.o,.inr ⟨HM.o,_,M.o,.inr ⟨T,_,fl.o,rfl,fj.o wi eg.o⟩⟩⟩
       | false=>
        have ff:=q_ (en.o (λh=>by have h2:=b0.o.2 h;cases h2));go_wp2_with fail;go_ret2;exact⟨d2.o,.inr ⟨HM.o,_,M.o,.inl ⟨ff.o,rfl⟩⟩⟩
end
end Go.Proofs.YtefhfadjajcmkaaGreatDoor
