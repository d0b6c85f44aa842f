/- What a script, a list of triples in memory read as: printed by gen_Y3.py. -/
import Derived.Test.YtefhfadjajcmkaaGreatDoorK9
import Derived.Test.YtefhfadjajcmkaaGreatDoorBulk
import Derived.Deep.Slices
import Derived.Lib.SmallJoins
set_option linter.unusedVariables false
set_option linter.unusedSimpArgs false
set_option maxRecDepth 100000
set_option maxHeartbeats 64000000
namespace Go.Proofs.YtefhfadjajcmkaaGreatDoor
open Go.Ending renaming returned→XW
open Go.RowKit.Below renaming refl→XV
open Go.RowKit renaming Below→XU
open Nat renaming le_refl→XJ,lt_of_lt_of_le→XY
open Go.Obj renaming cells→XX
open List renaming getElem?_eq_getElem→XQ,mem_of_getElem?→YQ
open _root_.Go.Proofs.Tryz renaming prog→QW,underlying39→YZ
open Go renaming World→QV,Value→XZ
open Go.IntKind renaming i64→QU
open Option renaming some→QJ,none→QY
open Go.Lib renaming cell_of_heap→QX
open Go.Value renaming slice→QQ,string→QZ,int→QK,bool→XK,pointer→YX,tuple→YY
open Go.Lib (cell_of_heap)
section
open Go Go.RowKit
theorem qy_ (l:List G_) (G:∀p,p∈l->B5_ p) (F:Nat->Prop) (A:Option Addr) (n a4:Nat) (hn:n<=2000000) (w:QV) (hF:∀g,F g->g<w.heap.size) (hl:SRd 7 PaR w F l A n) :
    Calls QW 102 #[QQ A n a4] w (p_ (as_ l) w):=by
 have T:=q_ hl;have z:=q_ hF;have S:=q_ G;have m:=q_ hl.1;clear hl hF G;have U:=q_ (show as_ l=(a1_ [] l&&decide (l.length<=65536)) from rfl);obtain⟨I,M⟩:=a_ (as_ l);rw[M.o]at U ⊢;have a1:=q_ (λ(k:Nat) (x:G_) (u:l[k]?=some x) (h:(al_ x.key&&(!inB ((l.take k).map G_.key) x.key&&a8_ x.v))=false)=>M.o.symm.trans (xm_ u h));by_cases Y:65536<n
 ·have g1:(65536:Int)<(n:Int):=by omega
  have f:=q_ (show false=I from by rw[U.o,decide_eq_false (by rw[<-m.o];omega)];simp);clear Y;go_enter Tryz.func102,Tryz.ntmps102
  go_wp2_with fail;go_ret;exact⟨j_ f.o,XV _ _⟩
 ·have g1:¬(65536:Int)<(n:Int):=by omega
  go_enter Tryz.func102,Tryz.ntmps102
  go_wp2_with fail;clear g1;go_loopw [3] (λs wx=>∃k:Nat,k<=n/\s = QK QU (k:Nat)/\Q_ (XU w.heap.size w wx/\a1_ [] (l.take k)=true)) (λs _=>n-(intOf s).toNat)
  case atStart=>exact⟨0,by omega,rfl,q_ ⟨XV _ _,by rw[List.take_zero];rfl⟩⟩
  case round=>
   obtain⟨k,hk,rfl,i⟩:=hrel;by_cases a8:k<n
   ·obtain⟨x,u⟩:∃x,l[k]?=QJ x:=⟨l[k]'(by rw[<-m.o];exact a8),XQ _⟩;have V:=q_ u;have a6:=q_ (S.o x (YQ u));obtain⟨ad,s,rfl,a5,hv,c0,c1,c2,c3,c4,c5,c6⟩:=lz_ (T.o.under PaR.good i.o.1 z.o) u;obtain⟨B,cb,J,_,_⟩:=hv.inv;have es:s = QQ B x.v.list.length cb:=by injection J with J;have:=congrArg (λa:Array XZ=>a[5]?) J;simpa [c_] using this
    obtain⟨lx,a3⟩:=a_ x.v.list.length;rw[a3.o]at es;subst es;have r:=q_ (λ(W:QV) (hW:XU wr.heap.size wr W)=>z7_ (M_ x.v+1) x.v (by omega) (by have:=a6.o.2;omega) true F _ W (λg Z=>XY (XY (z.o g Z) i.o.1.size) hW.size) (hv.under hW (λg Z=>XY (z.o g Z) i.o.1.size)));rw[xh_]at r;unfold c_ at r;obtain⟨tb,D⟩:=a_ (al_ x.key);obtain⟨qb,C⟩:=a_ (a8_ x.v);have hw:=q_ (λW=>ve_ x.key W);rw[D.o]at hw;rw[C.o]at r;have q:=q_ (λh=>a1.o k x V.o h);rw[D.o,C.o]at q;have e1:(0:Int)<=k:=by omega
    have e2:(k:Int)<n:=by omega
    clear u a5 hv J
    cases tb with
    | false=>
     have f:=q_ (show false=I from (q.o (by simp)).symm);go_wp2_with fail;refine (hw.o wr).mono ?_;rintro e w2 ⟨rfl,rfl⟩;go_wp2_with fail;go_ret;exact⟨j_ f.o,i.o.1⟩
    | true=>
     go_wp2_with fail;refine (hw.o wr).mono ?_;rintro e w2 ⟨rfl,a9⟩;subst a9;go_wp2_with fail;refine (r.o _ (XV _ _)).mono ?_;rintro e w3 ⟨rfl,O⟩;have L:=q_ (i.o.1.trans (O.mono i.o.1.size));clear O c0 c1 c2 c3 c4 c5 c6
     cases qb with
     | false=>
      have f:=q_ (show false=I from (q.o (by simp)).symm);go_wp2_with fail;go_ret;exact⟨j_ f.o,L.o⟩
     | true=>
      have w1:IntKind.i64.wrap ((k:Int)+1)=(k:Int)+1:=IntWalk.i64_in _ (by omega);go_wp2_with fail;go_loopw [4] (λs wx=>∃j:Nat,j<=k/\s = QK QU (j:Nat)/\Q_ (XU w.heap.size w wx/\x.key∉(l.take j).map G_.key)) (λs _=>k-(intOf s).toNat)
      case atStart=>exact⟨0,by omega,rfl,q_ ⟨L.o,by simp⟩⟩
      case round=>
       obtain⟨j,hj,rfl,b⟩:=hrel;by_cases a7:j<k
       ·obtain⟨y,hy⟩:∃y,l[j]?=QJ y:=⟨l[j]'(by rw[<-m.o];omega),XQ _⟩;have HY:=q_ hy;obtain⟨E,s',hA,_,_,d0,_⟩:=lz_ (T.o.under PaR.good b.o.1 z.o) hy;obtain rfl:ad=E:=by injection hA
        obtain⟨E,aa,N,_,_,d1,_⟩:=lz_ (T.o.under PaR.good b.o.1 z.o) V.o;obtain rfl:ad=E:=by injection N
        have q1:(0:Int)<=j:=by omega
        have q2:(j:Int)<n:=by omega
        have q3:(j:Int)<k:=by omega
        have w4:IntKind.i64.wrap ((j:Int)+1)=(j:Int)+1:=IntWalk.i64_in _ (by omega);clear hy hA N;by_cases c:y.key=x.key
        ·have t1:(y.key.toList==x.key.toList)=true:=by rw[c];exact beq_self_eq_true _
         have f:=q_ (show false=I from (q.o (by have a0:y∈l.take k:=YQ (by rw[List.getElem?_take];rw[if_pos a7];exact HY.o);rw[ci_ (List.mem_map.2 ⟨y,a0,c⟩)];simp)).symm);clear c;go_upto_region 11 with fail;go_quiet (fail)
         go_wp2_with fail;go_ret;exact⟨j_ f.o,an_ b.o.1 nq⟩
        ·have t1:(y.key.toList==x.key.toList)=false:=ba_ c;have a2:=q_ c;clear c;go_upto_region 11 with fail;go_quiet (fail)
         go_wp2_with fail;go_roundw
         case measure=>simp[intOf];omega
         case rel=>
          refine⟨j+1,by omega,by go_num,q_ ⟨an_ b.o.1 nq,λt=>?_⟩⟩;rw[f_ HY.o,List.map_append]at t;rcases List.mem_append.1 t with t | t
          ·exact b.o.2 t
          ·exact a2.o (List.mem_singleton.1 t).symm
       ·have P:j=k:=by omega
        have X:=q_ (show a1_ [] (l.take (k+1))=true from s6_ V.o (by have h4:=b.o.2;rw[P]at h4;rw[D.o,C.o,g9_ h4];rfl) i.o.2);have q3:¬(j:Int)<k:=by omega
        clear P;go_wp2_with fail;go_roundw
        case measure=>simp[intOf];omega
        case rel=>exact⟨k+1,by omega,by go_num,q_ ⟨b.o.1,X.o⟩⟩
   ·have R:k=n:=by omega
    have f:=q_ (show true=I from by have h2:=i.o.2;rw[List.take_of_length_le (by rw[<-m.o,R];exact XJ _)]at h2;rw[U.o,h2,decide_eq_true (by rw[<-m.o];omega)];rfl);clear R;go_wp2_with fail;go_ret;exact⟨j_ f.o,i.o.1⟩
theorem SRd.take {c : Type} {R:bu_ c} {sz:Nat} {w:QV} {F:Nat->Prop} {l:List c} {A:Option Addr} {n k:Nat} (h:SRd sz R w F l A n) (j:k<=n):SRd sz R w F (l.take k) A k:=by refine⟨by rw[List.length_take];have:=h.1;omega,λh0=>?_⟩;obtain⟨ad,e,f,g⟩:=h.2 (by omega);refine⟨ad,e,f,λi x a=>?_⟩;have b:=b7_ a;rw[List.length_take]at b;rw[List.getElem?_take,if_pos (by omega)]at a;exact g i x a
def h4_ (l:List h_) (id:Int) (r:Int):Prop:=(r = -1/\id∉l.map h_.id)\/∃p x,r=((p:Nat):Int)/\l[p]?=QJ x/\x.id=id/\id∉(l.take p).map h_.id
def Fg_ (l:List h_) (a:Int) (w:QV) (e:Ending) (w':QV):Prop:=∃r:Int,e = XW (QK QU r)/\h4_ l a r/\XU w.heap.size w w'
theorem h4_.low {l:List h_} {id r:Int} (h:h4_ l id r):decide (r<0) = !inB (l.map h_.id) id:=by
 rcases h with⟨h1,h2⟩ | ⟨p,x,h1,h2,a,_⟩
 ·rw[g9_ h2,decide_eq_true (by omega)];rfl
 ·rw[ci_ (List.mem_map.2 ⟨x,YQ h2,a⟩),decide_eq_false (by omega)];rfl
theorem h4_.at_ {l:List h_} {r:Int} {i:Nat} {x:h_} (h:h4_ l x.id r) (f:l[i]?=QJ x):(r != (i:Int))=inB ((l.take i).map h_.id) x.id:=by
 rcases h with⟨_,h2⟩ | ⟨p,y,h1,h2,g,b⟩
 ·exact absurd (List.mem_map.2 ⟨x,YQ f,rfl⟩) h2
 ·subst h1;by_cases e:p=i
  ·subst e;rw[g9_ b];simp
  ·rcases Nat.lt_or_ge p i with c | c
   ·have a:y∈l.take i:=YQ (show (l.take i)[p]?=QJ y from by rw[List.getElem?_take,if_pos c];exact h2);rw[ci_ (List.mem_map.2 ⟨y,a,g⟩)];simp only[bne_iff_ne,ne_eq];omega
   ·have a:x∈l.take p:=YQ (show (l.take p)[i]?=QJ x from by rw[List.getElem?_take,if_pos (by omega)];exact f);exact absurd (List.mem_map.2 ⟨x,a,rfl⟩) b
theorem Dp_ (l:List h_) (id:Int) (E:XZ) (F:Nat->Prop) (A:Option Addr) (n b:Nat) (hn:n<=2000000) (w:QV) (O:∀g,F g->g<w.heap.size) (y:SRd 3 NoR w F l A n) (V:∃B m c,E = QQ B m c) :
    Calls QW 100 #[.agg #[QQ A n b,E],QK QU id] w (Fg_ l id w):=by
 obtain⟨D,R,N,rfl⟩:=V;have T:=q_ y;have S:=q_ O;have u:=q_ y.1;clear y O;obtain⟨z,M⟩:=a_ w.heap.size;obtain⟨r,q⟩:=a_ (w.alloc (XX #[QQ A n b,QQ D R N] 54));have j:=q_ (show XU w.heap.size w r from by rw[<-q.o];exact (XV _ _).alloc (XJ _) _);have G:=q_ (show r.heap[z]?=QJ (XX #[QQ A n b,QQ D R N] 54 (0,0)) from by rw[<-q.o,<-M.o];exact heap_alloc_new w _);have I:=q_ (T.o.under NoR.good j.o S.o);have c0:r.cell? ⟨z,0,QY⟩=QJ (QQ A n b):=QX G.o 0;go_enter Tryz.func100,Tryz.ntmps100
 go_upto_region 1 with fail;rw[q.o,M.o];go_wp2_with fail;go_loopw [5] (λs Z=>∃k:Nat,k<=n/\s = QK QU (k:Nat)/\Z=r/\Q_ (id∉(l.take k).map h_.id)) (λs _=>n-(intOf s).toNat)
 case atStart=>exact⟨0,by omega,rfl,rfl,q_ (by simp)⟩
 case round=>
  obtain⟨k,hk,rfl,rfl,v⟩:=hrel;by_cases P:k<n
  ·obtain⟨x,C⟩:∃x,l[k]?=QJ x:=⟨l[k]'(by rw[<-u.o];exact P),XQ _⟩;have J:=q_ C;obtain⟨ad,A1,d1,A2,d2,rfl,_,_,_,_,X,_,_⟩:=ls_ I.o C;obtain⟨f,a⟩:=a_ x.id;rw[a.o]at X;clear C;have e1:(0:Int)<=k:=by omega
   have e2:(k:Int)<n:=by omega
   have w2:IntKind.i64.wrap ((k:Int)+1)=(k:Int)+1:=IntWalk.i64_in _ (by omega);by_cases e:f=id
   ·subst e;have Y:((f:Int)==f)=true:=beq_self_eq_true _;go_wp2_with fail;go_ret;exact⟨(k:Int),rfl,.inr ⟨k,x,rfl,J.o,a.o,v.o⟩,j.o⟩
   ·have Y:((f:Int)==id)=false:=beq_eq_false_iff_ne.2 e;have L:=q_ e;clear e;go_wp2_with fail;go_roundw
    case measure=>simp[intOf];omega
    case rel=>
     refine⟨k+1,by omega,by go_num,by trivial,q_ λi=>?_⟩;rw[f_ J.o,List.map_append]at i;rcases List.mem_append.1 i with i | i
     ·exact v.o i
     ·exact L.o (a.o.symm.trans (List.mem_singleton.1 i).symm)
  ·have t:k=n:=by omega
   have U:=q_ (show id∉l.map h_.id from by have h:=v.o;rw[List.take_of_length_le (by rw[<-u.o,t];exact XJ _)]at h;exact h);clear t;go_wp2_with fail;go_ret;exact⟨-1,rfl,.inl ⟨rfl,U.o⟩,j.o⟩
theorem wt_ (l:List ByteArray) (F:Nat->Prop) (A:Option Addr) (n v:Nat) (hn:n<=2000000) (Z:n<=v) (w:QV) (a0:∀g,F g->g<w.heap.size) (O:SRd 1 TxR w F l A n) :
    Calls QW 101 #[QQ A n v] w (p_ (a7_ [] l&&decide (l.length<=65536)) w):=by
 have U:=q_ O;have B:=q_ O.1;clear O;obtain⟨E,t⟩:=a_ (a7_ [] l&&decide (l.length<=65536));rw[t.o];have P:=q_ (λ(k:Nat) (x:ByteArray) (C:l[k]?=QJ x) (h:(al_ x && !inB (l.take k) x)=false)=>(show false=E from by rw[<-t.o,Bi_ C h];rfl));go_enter Tryz.func101,Tryz.ntmps101
 go_wp2_with fail;go_loopw [3] (λs wx=>∃k q:Nat,k<=n/\s = QK QU (k:Nat)/\Q_ (wx=w.drewN q/\a7_ [] (l.take k)=true)) (λs _=>n-(intOf s).toNat)
 case atStart=>exact⟨0,0,by omega,rfl,q_ ⟨rfl,by rw[List.take_zero];rfl⟩⟩
 case round=>
  obtain⟨k,q,hk,rfl,i⟩:=hrel;by_cases S:k<n
  ·obtain⟨x,C⟩:∃x,l[k]?=QJ x:=⟨l[k]'(by rw[<-B.o];exact S),XQ _⟩;have R:=q_ C;have G:=q_ (show SRd 1 TxR wr F l A n from by rw[i.o.1];exact U.o.drewN TxR.good q);obtain⟨ad,rfl,_,q0⟩:=Ar_ G.o C;obtain⟨tb,u⟩:=a_ (al_ x);obtain⟨ib,j⟩:=a_ (inB (l.take k) x);have D:=q_ (λW=>ve_ x W);have z:=q_ (λ(W:QV) (Y:SRd 1 TxR W F (l.take k) (QJ ad) k) (c:Nat)=>Hh_ (l.take k) x F (QJ ad) k c W Y (by omega));rw[u.o]at D;rw[j.o]at z;have m:=q_ (λh=>P.o k x R.o h);rw[u.o,j.o]at m;have b:=q_ (show XU w.heap.size w wr from by rw[i.o.1];exact an_ (XV _ _) q);have T:=q_ (show wr.drew.cell? (ad.add k)=QJ (QZ x) from q0);have J:=q_ (show SRd 1 TxR wr.drew F (l.take k) (QJ ad) k from (G.o.drewN TxR.good 1).take hk);have e1:(0:Int)<=k:=by omega
   have e2:(k:Int)<n:=by omega
   have e3:(k:Int)<=v:=by omega
   have e4:(k:Int)<=n:=by omega
   have w1:IntKind.i64.wrap ((k:Int)+1)=(k:Int)+1:=IntWalk.i64_in _ (by omega);clear C
   cases tb with
   | false=>
    have f:=q_ (m.o (by simp));go_upto_region 4 with fail;go_quiet ((go_at_call 103;exact Calls.quiet_of_same (D.o _)))
    go_wp2_with fail;go_ret;exact⟨j_ f.o,an_ b.o nq⟩
   | true=>
    cases ib with
    | true=>
     have f:=q_ (m.o (by simp));go_upto_region 4 with fail
     go_region_held3 (λN=>N.cell? (ad.add k)=QJ (QZ x)) (exact T.o)
      (first | (go_at_call 103;(with_reducible refine (D.o _).mono ?_);rintro e w2 ⟨rfl,rfl⟩) | (go_at_call 157;(with_reducible refine (z.o _ J.o _).mono ?_);rintro e w2 ⟨r,rfl,hr,rfl⟩))
     go_wp2_with fail;go_ret;exact⟨j_ f.o,b.o.drew⟩
    | false=>
     have M:=q_ (show a7_ [] (l.take (k+1))=true from wu_ R.o (by rw[u.o,j.o];rfl) i.o.2);go_upto_region 4 with fail
     go_region_held3 (λN=>N.cell? (ad.add k)=QJ (QZ x)) (exact T.o)
      (first | (go_at_call 103;(with_reducible refine (D.o _).mono ?_);rintro e w2 ⟨rfl,rfl⟩) | (go_at_call 157;(with_reducible refine (z.o _ J.o _).mono ?_);rintro e w2 ⟨r,rfl,hr,rfl⟩))
     have V:=q_ (show wr.drew=w.drewN (q+1) by rw[i.o.1];rfl);clear i;go_wp2_with fail;go_roundw
     case measure=>simp[intOf];omega
     case rel=>exact⟨k+1,q+1,by omega,by go_num,q_ ⟨V.o,M.o⟩⟩
  ·have L:k=n:=by omega
   have b:=q_ (show XU w.heap.size w wr from by rw[i.o.1];exact an_ (XV _ _) q);have I:=q_ (show decide (n<=65536)=E from by have h2:=i.o.2;rw[List.take_of_length_le (by rw[<-B.o,L];exact XJ _)]at h2;rw[<-t.o,h2,B.o];rfl);clear L;by_cases y:n<=65536
   ·have X:(n:Int)<=65536:=by omega
    have f:=q_ (show true=E from by rw[<-I.o];exact (decide_eq_true y).symm);go_wp2_with fail;go_ret;exact⟨j_ f.o,b.o⟩
   ·have X:¬(n:Int)<=65536:=by omega
    have f:=q_ (show false=E from by rw[<-I.o];exact (decide_eq_false y).symm);go_wp2_with fail;go_ret;exact⟨j_ f.o,b.o⟩
theorem NoR.cap {w:QV} {F:Nat->Prop} {x:h_} {g:XZ} {c:Option Addr} {b a:Nat} {P:XZ} (h:NoR w F x #[g,QQ c b a,P]):b<=a:=by obtain⟨i,j,e,⟨A',k,f,l,_⟩,_⟩:=h;subst f;simp only[Array.mk.injEq,List.cons.injEq,Value.slice.injEq]at e;omega
theorem H5_ (G:w_) (a2:me_ G) (F:Nat->Prop) (u:XZ) (w:QV) (hF:∀b,F b->b<w.heap.size) (hg:GrR w F G u) :
    Calls QW 33 #[u] w (p_ (c8_ G) w):=by
 have aq:=q_ a2;have HF:=q_ hF;obtain⟨uN,uE,rfl,⟨AN,cN,bm,_,b2⟩,AE,cE,bl,_,az⟩:=hg;obtain⟨t,a6⟩:=a_ G.nodes.length;obtain⟨n,X⟩:=a_ G.edges.length;have c6:t<=2000000:=by rw[<-a6.o];exact a2.1
 have cb:n<=2000000:=by rw[<-X.o];exact a2.2.1
 rw[a6.o]at bm b2;rw[X.o]at bl az;subst bm bl;obtain⟨mb,bh⟩:=a_ (c8_ G);rw[bh.o];have au:=q_ (show mb=(decide (t<=131072/\n<=65536)&&(Y_ okN h_.id [] G.nodes&&Y_ (okE (G.nodes.map h_.id)) l_.id [] G.edges)) from by rw[<-bh.o,<-a6.o,<-X.o];rfl);obtain⟨z,Hz⟩:=a_ w.heap.size;obtain⟨L,aw⟩:=a_ (w.alloc (XX #[QQ AN t cN,QQ AE n cE] 54));have c:=q_ (show XU w.heap.size w L from by rw[<-aw.o];exact (XV _ _).alloc (XJ _) _);have aj:=q_ (show L.heap[z]?=QJ (XX #[QQ AN t cN,QQ AE n cE] 54 (0,0)) from by rw[<-aw.o,<-Hz.o];exact heap_alloc_new w _);have ca:=q_ (b_ aj.o);have bi:=q_ (b2.under NoR.good c.o hF);have bc:=q_ (az.under EdR.good c.o hF);have A:=q_ (λ(b:Nat) (hb:F b)=>XY (hF b hb) c.o.size);have I:=q_ (λ(W:QV) (B:XU L.heap.size L W)=>(B.block z ca.o).trans aj.o);have b8:=q_ (λ(W:QV) (B:XU L.heap.size L W) (i:Int)=>Dp_ G.nodes i (QQ AE n cE) F AN t cN c6 W (λb hb=>XY (A.o b hb) B.size) (bi.o.under NoR.good B A.o) ⟨_,_,_,rfl⟩);have x0:L.cell? ⟨z,0,QY⟩=QJ (QQ AN t cN):=QX aj.o 0;have x1:L.cell? ⟨z,1,QY⟩=QJ (QQ AE n cE):=QX aj.o 1;clear a2 hF b2 az;go_enter Tryz.func33,Tryz.ntmps33
 go_upto_region 1 with fail;rw[aw.o,Hz.o];by_cases b3:131072<t
 ·have g1:(131072:Int)<(t:Int):=by omega
  have g:=q_ (show false=mb from by rw[au.o,decide_eq_false (by omega)];rfl);clear b3;go_wp2_with fail;go_ret;exact⟨j_ g.o,c.o⟩
 ·have g1:¬(131072:Int)<(t:Int):=by omega
  by_cases bo:65536<n
  ·have g2:(65536:Int)<(n:Int):=by omega
   have g:=q_ (show false=mb from by rw[au.o,decide_eq_false (by omega)];rfl);clear b3 bo;go_wp2_with fail;go_ret;exact⟨j_ g.o,c.o⟩
  ·have g2:¬(65536:Int)<(n:Int):=by omega
   have bf:=q_ (show mb=(Y_ okN h_.id [] G.nodes&&Y_ (okE (G.nodes.map h_.id)) l_.id [] G.edges) from by rw[au.o,decide_eq_true (by omega)];rfl);clear b3 bo;go_wp2_with fail;clear g1 g2 x0 x1;go_loopw [3] (λs wx=>∃k:Nat,k<=t/\s = QK QU (k:Nat)/\Q_ (XU L.heap.size L wx/\Y_ okN h_.id [] (G.nodes.take k)=true)) (λs _=>t-(intOf s).toNat)
   case atStart=>exact⟨0,by omega,rfl,q_ ⟨XV _ _,by rw[List.take_zero];rfl⟩⟩
   case round=>
    obtain⟨k,hk,rfl,m⟩:=hrel;have b0:wr.cell? ⟨z,0,none⟩=some (QQ AN t cN):=QX (I.o wr m.o.1) 0;have ap:=q_ (c.o.trans (m.o.1.mono c.o.size));by_cases b7:k<t
    ·obtain⟨x,hx⟩:∃x,G.nodes[k]?=QJ x:=⟨G.nodes[k]'(by rw[a6.o];exact b7),XQ _⟩;have HX:=q_ hx;have Z:=q_ (aq.o.2.2.1 x (YQ hx));obtain⟨ad,A1,d1,A2,d2,rfl,_,bn,bq,a9,q0,q1,q2⟩:=ls_ (bi.o.under NoR.good m.o.1 A.o) hx;have b4:=bn.cap;have a:=q_ (λ(h:okN ((G.nodes.take k).map h_.id) x=false)=>(show false=mb from by rw[bf.o,l6_ HX.o h];rfl));have l:=q_ (λ(h:okN ((G.nodes.take k).map h_.id) x=true)=>l7_ (key:=h_.id) HX.o h m.o.2);have af:=q_ (λ(r:Int) (h:h4_ G.nodes x.id r)=>h.at_ HX.o);obtain⟨ib,V⟩:=a_ (inB ((G.nodes.take k).map h_.id) x.id);obtain⟨lb,bd⟩:=a_ (a7_ [] x.labels&&decide (x.labels.length<=65536));obtain⟨pb,a5⟩:=a_ (as_ x.props);have av:=q_ (show okN ((G.nodes.take k).map h_.id) x=(decide (0<=x.id)&&(!ib&&(lb&&pb))) from by rw[<-V.o,<-bd.o,<-a5.o];unfold okN;rw[Bool.and_assoc]);rw[av.o]at a l;rw[V.o]at af;have ag:=q_ (λ(W:QV) (B:XU wr.heap.size wr W)=>wt_ x.labels F A1 x.labels.length d1 Z.o.1.1 b4 W (λb hb=>XY (XY (A.o b hb) m.o.1.size) B.size) (bq.under TxR.good B (λb hb=>XY (A.o b hb) m.o.1.size)));have D:=q_ (λ(W:QV) (B:XU wr.heap.size wr W)=>qy_ x.props Z.o.1.2.2.2 F A2 x.props.length d2 Z.o.1.2.1 W (λb hb=>XY (XY (A.o b hb) m.o.1.size) B.size) (a9.under PaR.good B (λb hb=>XY (A.o b hb) m.o.1.size)));rw[bd.o]at ag;rw[a5.o]at D;obtain⟨id,T⟩:=a_ x.id;rw[T.o]at q0 af a l;obtain⟨m1,c3⟩:=a_ x.labels.length;obtain⟨m2,ay⟩:=a_ x.props.length;rw[c3.o]at q1 ag;rw[ay.o]at q2 D;obtain⟨M,a7⟩:=a_ wr.heap.size;obtain⟨w5,S⟩:=a_ (wr.alloc (XX #[QK QU id,QQ A1 m1 d1,QQ A2 m2 d2] 72));have E:=q_ (show XU wr.heap.size wr w5 from by rw[<-S.o];exact (XV _ _).alloc (XJ _) _);have O:=q_ (show w5.heap[M]?=QJ (XX #[QK QU id,QQ A1 m1 d1,QQ A2 m2 d2] 72 (0,0)) from by rw[<-S.o,<-a7.o];exact heap_alloc_new wr _);have ai:=q_ (b_ O.o);have R:=q_ (λ(W:QV) (B:XU w5.heap.size w5 W)=>(B.block M ai.o).trans O.o);have f:=q_ (m.o.1.trans (E.o.mono m.o.1.size));have e1:(0:Int)<=k:=by omega
     have e2:(k:Int)<t:=by omega
     have w2:IntKind.i64.wrap ((k:Int)+1)=(k:Int)+1:=IntWalk.i64_in _ (by omega);clear hx bn bq a9 b4;go_upto_region 7 with fail;rw[a7.o,S.o];clear q0 q1 q2 b0;have n0:w5.cell? ⟨M,0,none⟩=some (QK QU id):=QX O.o 0;have b0:w5.cell? ⟨z,0,none⟩=some (QQ (some ad) t cN):=QX (I.o w5 f.o) 0;have b1:w5.cell? ⟨z,1,none⟩=some (QQ AE n cE):=QX (I.o w5 f.o) 1;by_cases c9:id<0
     ·have g:=q_ (a.o (by rw[decide_eq_false (by omega)];rfl));have ao:=q_ (c.o.trans (f.o.mono c.o.size));go_wp2_with fail;go_ret;exact⟨j_ g.o,ao.o⟩
     ·have ar:=q_ (show decide (0<=id)=true from decide_eq_true (by omega));rw[ar.o]at a l;go_wp2_with fail;refine (b8.o w5 f.o id).mono ?_;rintro e w6 ⟨r,rfl,hr,J⟩;have cc:(r != (k:Int))=ib:=af.o r hr;have C:=q_ (f.o.trans (J.mono f.o.size));have N:=q_ J;have aa:=q_ (c.o.trans (C.o.mono c.o.size));have n1:w6.cell? ⟨M,1,QY⟩=QJ (QQ A1 m1 d1):=QX (R.o w6 J) 1;clear hr J n0 b0 b1
      cases ib with
      | true=>
       have g:=q_ (a.o rfl);go_wp2_with fail;go_ret;exact⟨j_ g.o,aa.o⟩
      | false=>
       go_wp2_with fail;refine (ag.o w6 (E.o.trans (N.o.mono E.o.size))).mono ?_;rintro e w7 ⟨rfl,U⟩;have v:=q_ (N.o.trans (U.mono N.o.size));have P:=q_ (C.o.trans (U.mono C.o.size));have a1:=q_ (c.o.trans (P.o.mono c.o.size));have n2:w7.cell? ⟨M,2,QY⟩=QJ (QQ A2 m2 d2):=QX (R.o w7 v.o) 2;clear U n1
       cases lb with
       | false=>
        have g:=q_ (a.o rfl);go_wp2_with fail;go_ret;exact⟨j_ g.o,a1.o⟩
       | true=>
        go_wp2_with fail;refine (D.o w7 (E.o.trans (v.o.mono E.o.size))).mono ?_;rintro e w8 ⟨rfl,Y⟩;have a4:=q_ (P.o.trans (Y.mono P.o.size));have ab:=q_ (c.o.trans (a4.o.mono c.o.size));clear Y n2
        cases pb with
        | false=>
         have g:=q_ (a.o rfl);go_wp2_with fail;go_ret;exact⟨j_ g.o,ab.o⟩
        | true=>
         have ac:=q_ (l.o rfl);go_wp2_with fail;go_roundw
         case measure=>simp[intOf];omega
         case rel=>exact⟨k+1,by omega,by go_num,q_ ⟨a4.o,ac.o⟩⟩
    ·have a8:k=t:=by omega
     have bg:=q_ (show mb=Y_ (okE (G.nodes.map h_.id)) l_.id [] G.edges from by have h2:=m.o.2;rw[List.take_of_length_le (by rw[a6.o,a8];exact XJ _)]at h2;rw[bf.o,h2];rfl);have ba:=q_ m.o.1;clear m a8 ap;go_wp2_with fail;clear b0;go_loopw [5] (λs wx=>∃k:Nat,k<=n/\s = QK QU (k:Nat)/\Q_ (XU L.heap.size L wx/\Y_ (okE (G.nodes.map h_.id)) l_.id [] (G.edges.take k)=true)) (λs _=>n-(intOf s).toNat)
     case atStart=>exact⟨0,by omega,rfl,q_ ⟨ba.o,by rw[List.take_zero];rfl⟩⟩
     case round=>
      clear ba;obtain⟨k,hk,rfl,m⟩:=hrel;have b1:wr.cell? ⟨z,1,none⟩=some (QQ AE n cE):=QX (I.o wr m.o.1) 1;have ap:=q_ (c.o.trans (m.o.1.mono c.o.size));by_cases b7:k<n
      ·obtain⟨x,hx⟩:∃x,G.edges[k]?=QJ x:=⟨G.edges[k]'(by rw[X.o];exact b7),XQ _⟩;have HX:=q_ hx;have Z:=q_ (aq.o.2.2.2 x (YQ hx));obtain⟨ad,A2,d2,rfl,_,c5,a9,q0,q1,q2,q3,q4⟩:=i8_ (bc.o.under EdR.good m.o.1 A.o) hx;have a:=q_ (λ(h:okE (G.nodes.map h_.id) ((G.edges.take k).map l_.id) x=false)=>(show false=mb from by rw[bg.o,l6_ HX.o h]));have l:=q_ (λ(h:okE (G.nodes.map h_.id) ((G.edges.take k).map l_.id) x=true)=>l7_ (key:=l_.id) HX.o h m.o.2);obtain⟨ib,V⟩:=a_ (inB ((G.edges.take k).map l_.id) x.id);obtain⟨sb,bj⟩:=a_ (inB (G.nodes.map h_.id) x.src);obtain⟨db,bb⟩:=a_ (inB (G.nodes.map h_.id) x.dst);obtain⟨tb,bk⟩:=a_ (al_ x.type);obtain⟨pb,a5⟩:=a_ (as_ x.props);have av:=q_ (show okE (G.nodes.map h_.id) ((G.edges.take k).map l_.id) x=(decide (0<=x.id)&&(!ib&&(sb&&(db&&(tb&&pb))))) from by rw[<-V.o,<-bj.o,<-bb.o,<-bk.o,<-a5.o];rfl);rw[av.o]at a l;have b6:=q_ (λ(r:Int) (h:h4_ G.nodes x.src r)=>h.low);have b5:=q_ (λ(r:Int) (h:h4_ G.nodes x.dst r)=>h.low);rw[bj.o]at b6;rw[bb.o]at b5;have hw:=q_ (λW=>ve_ x.type W);rw[bk.o]at hw;have D:=q_ (λ(W:QV) (B:XU wr.heap.size wr W)=>qy_ x.props Z.o.1.2.2 F A2 x.props.length d2 Z.o.1.2.1 W (λb hb=>XY (XY (A.o b hb) m.o.1.size) B.size) (a9.under PaR.good B (λb hb=>XY (A.o b hb) m.o.1.size)));rw[a5.o]at D;obtain⟨id,T⟩:=a_ x.id;obtain⟨src,bx⟩:=a_ x.src;obtain⟨dst,bw⟩:=a_ x.dst;obtain⟨b9,bz⟩:=a_ x.type;obtain⟨m2,ay⟩:=a_ x.props.length;rw[T.o]at q0 a l;rw[bx.o]at q1 b6;rw[bw.o]at q2 b5;rw[bz.o]at q3 hw;rw[ay.o]at q4 D;obtain⟨M,a7⟩:=a_ wr.heap.size;obtain⟨w5,S⟩:=a_ (wr.alloc (XX #[QK QU id,QK QU src,QK QU dst,QZ b9,QQ A2 m2 d2] 74));have E:=q_ (show XU wr.heap.size wr w5 from by rw[<-S.o];exact (XV _ _).alloc (XJ _) _);have O:=q_ (show w5.heap[M]?=QJ (XX #[QK QU id,QK QU src,QK QU dst,QZ b9,QQ A2 m2 d2] 74 (0,0)) from by rw[<-S.o,<-a7.o];exact heap_alloc_new wr _);have ai:=q_ (b_ O.o);have R:=q_ (λ(W:QV) (B:XU w5.heap.size w5 W)=>(B.block M ai.o).trans O.o);have f:=q_ (m.o.1.trans (E.o.mono m.o.1.size));have e1:(0:Int)<=k:=by omega
       have e2:(k:Int)<n:=by omega
       have w2:IntKind.i64.wrap ((k:Int)+1)=(k:Int)+1:=IntWalk.i64_in _ (by omega);clear hx c5 a9;go_upto_region 13 with fail;rw[a7.o,S.o];clear q0 q1 q2 q3 q4 b1;have n0:w5.cell? ⟨M,0,none⟩=some (QK QU id):=QX O.o 0;have n1:w5.cell? ⟨M,1,none⟩=some (QK QU src):=QX O.o 1;have b0:w5.cell? ⟨z,0,none⟩=some (QQ AN t cN):=QX (I.o w5 f.o) 0;have b1:w5.cell? ⟨z,1,none⟩=some (QQ (some ad) n cE):=QX (I.o w5 f.o) 1;by_cases c9:id<0
       ·have g:=q_ (a.o (by rw[decide_eq_false (by omega)];rfl));have ao:=q_ (c.o.trans (f.o.mono c.o.size));go_wp2_with fail;go_ret;exact⟨j_ g.o,ao.o⟩
       ·have ar:=q_ (show decide (0<=id)=true from decide_eq_true (by omega));rw[ar.o]at a l;go_wp2_with fail;refine (b8.o w5 f.o src).mono ?_;rintro e w6 ⟨r,rfl,hr,J⟩;have ah:decide (r<0) = !sb:=b6.o r hr;have C:=q_ (f.o.trans (J.mono f.o.size));have N:=q_ J;have aa:=q_ (c.o.trans (C.o.mono c.o.size));have n2:w6.cell? ⟨M,2,QY⟩=QJ (QK QU dst):=QX (R.o w6 J) 2;have d0:w6.cell? ⟨z,0,QY⟩=QJ (QQ AN t cN):=QX (I.o w6 C.o) 0;have d1:w6.cell? ⟨z,1,QY⟩=QJ (QQ (QJ ad) n cE):=QX (I.o w6 C.o) 1;clear hr J n0 n1 b0 b1
        cases sb with
        | false=>
         have g:=q_ (a.o (by simp));have br:r<0:=of_decide_eq_true ah;go_wp2_with fail;go_ret;exact⟨j_ g.o,aa.o⟩
        | true=>
         have br:¬r<0:=of_decide_eq_false ah;go_wp2_with fail;refine (b8.o w6 C.o dst).mono ?_;rintro e w7 ⟨r2,rfl,hr,U⟩;have a3:decide (r2<0) = !db:=b5.o r2 hr;have v:=q_ (N.o.trans (U.mono N.o.size));have P:=q_ (C.o.trans (U.mono C.o.size));have a1:=q_ (c.o.trans (P.o.mono c.o.size));have n3:w7.cell? ⟨M,3,QY⟩=QJ (QZ b9):=QX (R.o w7 v.o) 3;have n4:w7.cell? ⟨M,4,QY⟩=QJ (QQ A2 m2 d2):=QX (R.o w7 v.o) 4;clear U hr n2 d0 d1 ah
         cases db with
         | false=>
          have g:=q_ (a.o (by simp));have bs:r2<0:=of_decide_eq_true a3;go_wp2_with fail;go_ret;exact⟨j_ g.o,a1.o⟩
         | true=>
          have bs:¬r2<0:=of_decide_eq_false a3;go_wp2_with fail;refine (hw.o w7).mono ?_;rintro e cd ⟨rfl,c8⟩;subst c8
          cases tb with
          | false=>
           have g:=q_ (a.o (by simp));go_wp2_with fail;go_ret;exact⟨j_ g.o,a1.o⟩
          | true=>
           go_wp2_with fail;refine (D.o _ (E.o.trans (v.o.mono E.o.size))).mono ?_;rintro e w8 ⟨rfl,Y⟩;have bt:=q_ (v.o.trans (Y.mono v.o.size));have a4:=q_ (P.o.trans (Y.mono P.o.size));have ab:=q_ (c.o.trans (a4.o.mono c.o.size));clear Y n3 n4 a3 br bs
           cases pb with
           | false=>
            have g:=q_ (a.o (by simp));go_wp2_with fail;go_ret;exact⟨j_ g.o,ab.o⟩
           | true=>
            go_wp2_with fail;go_loopw [7] (λs wx=>∃(j q:Nat),j<=k/\s = QK QU (j:Nat)/\Q_ (wx=w8.drewN q/\id∉(G.edges.take j).map l_.id)) (λs _=>k-(intOf s).toNat)
            case atStart=>exact⟨0,0,by omega,rfl,q_ ⟨rfl,by simp⟩⟩
            case round=>
             obtain⟨j,q,hj,rfl,hJ⟩:=hrel;have a0:=q_ (show XU L.heap.size L wr from by rw[hJ.o.1];exact an_ a4.o q);by_cases c7:j<k
             ·obtain⟨y,hy⟩:∃y,G.edges[j]?=QJ y:=⟨G.edges[j]'(by rw[X.o];omega),XQ _⟩;have HY:=q_ hy;obtain⟨c4,A3,d3,hA,_,_,_,p0,_⟩:=i8_ (bc.o.under EdR.good a0.o A.o) hy;obtain rfl:ad=c4:=by injection hA
              have b1:wr.cell? ⟨z,1,QY⟩=QJ (QQ (QJ ad) n cE):=QX (I.o wr a0.o) 1;have n0:wr.cell? ⟨M,0,QY⟩=QJ (QK QU id):=QX (R.o wr (by rw[hJ.o.1];exact an_ bt.o q)) 0;obtain⟨am,ae⟩:=a_ y.id;rw[ae.o]at p0;have q1:(0:Int)<=j:=by omega
              have q2:(j:Int)<n:=by omega
              have q3:(j:Int)<k:=by omega
              have w4:IntKind.i64.wrap ((j:Int)+1)=(j:Int)+1:=IntWalk.i64_in _ (by omega);clear hy hA;by_cases ak:am=id
              ·subst ak;have t1:((am:Int)==am)=true:=beq_self_eq_true _;have g:=q_ (a.o (by have hm:y∈G.edges.take k:=YQ (by rw[List.getElem?_take,if_pos c7];exact HY.o);rw[<-V.o,ci_ (List.mem_map.2 ⟨y,hm,ae.o.trans T.o.symm⟩)];rfl));have bu:=q_ (c.o.trans (a0.o.mono c.o.size));go_upto_region 18 with fail;go_quiet (fail)
               go_wp2_with fail;go_ret;exact⟨j_ g.o,an_ bu.o nq⟩
              ·have t1:((am:Int)==id)=false:=beq_eq_false_iff_ne.2 ak;have c2:=q_ ak;clear ak;go_upto_region 18 with fail;go_quiet (fail)
               have c1:=q_ (show wr.drewN nq=w8.drewN (q+nq) by rw[hJ.o.1,World.drewN_drewN]);have c0:=q_ hJ.o.2;clear hJ;go_wp2_with fail;go_roundw
               case measure=>simp[intOf];omega
               case rel=>
                refine⟨j+1,q+nq,by omega,by go_num,q_ ⟨c1.o,λhm=>?_⟩⟩;rw[f_ HY.o,List.map_append]at hm;rcases List.mem_append.1 hm with hm | hm
                ·exact c0.o hm
                ·exact c2.o (ae.o.symm.trans (List.mem_singleton.1 hm).symm)
             ·have bp:j=k:=by omega
              have ac:=q_ (l.o (by have h4:=hJ.o.2;rw[bp]at h4;rw[<-V.o,T.o,g9_ h4];rfl));have q3:¬(j:Int)<k:=by omega
              clear bp;go_wp2_with fail;go_roundw
              case measure=>simp[intOf];omega
              case rel=>exact⟨k+1,by omega,by go_num,q_ ⟨a0.o,ac.o⟩⟩
      ·have a8:k=n:=by omega
       have g:=q_ (show true=mb from by have h2:=m.o.2;rw[List.take_of_length_le (by rw[X.o,a8];exact XJ _)]at h2;rw[bg.o,h2]);clear a8;go_wp2_with fail;go_ret;exact⟨j_ g.o,ap.o⟩
end
section
open Go Go.RowKit Go.Maps
theorem le_ (i:Nat) (W:QV):(Instr.build 39 #[(0,QK QU 6),(2,QK QU (i:Nat))]).run QW W = .ok (.agg (Bh_ i)) W:=by kernel_rfl
theorem Hm_ (a b c d e:XZ):(Tryz.prog.info? 74).map (·.size)=QJ (#[a,b,c,d,e]:Array XZ).size:=by kernel_rfl
theorem Lj_ (a b c:Int) (s:ByteArray) (B:Option Addr) (r q:Nat):(#[QK QU a,QK QU b,QK QU c,QZ s,QQ B r q]:Array XZ).all (·.oneCell')=true:=by kernel_rfl
theorem L4_ {T:List e_} (b:ay_ T) (a:∀t,t∈T->∀n,bt_ (t.get n)):∀v,v∈U_ T->bt_ v:=λv c=>by
 obtain⟨t,ht,e | e⟩:=p8_ ((b.vals.2 v).1 c)
 ·rw[e];exact a t ht 0
 ·rw[e];exact a t ht 2
theorem B4_ {T:List e_} (a:ay_ T) (c:∀t,t∈T->∀n,bt_ (t.get n)):∀v,v∈U_ T->o6_ v:=λv b=>
 ⟨ec_ (a.val v b),L4_ a c v b,by have:=(a.val v b).2.1;omega⟩
theorem qu_ {T:List e_} {x:g_} (a:x∈U_ T):∃i:Nat,b2_ (U_ T) x=((i:Nat):Int)/\(U_ T)[i]?=QJ x:=by
 classical
 refine⟨place (U_ T) x,?_,s3_ a⟩;unfold b2_;exact congrArg (λq:Nat=>((q:Nat):Int)) (by congr)
theorem Gq_ {T:List e_} (n:ay_ T) {i:Nat} {t:e_} (ht:T[i]?=QJ t) {x:l_} (q:x∈(a3_ T).edges) (f:x.id=((i:Nat):Int)) :
    ∃a b:Nat,x.src=((a:Nat):Int)/\x.dst=((b:Nat):Int)/\x.type=t.p.text/\(U_ T)[a]?=QJ t.s/\(U_ T)[b]?=QJ t.o:=by
 obtain⟨j,m,e⟩:=List.mem_mapIdx.1 q;subst e;have h:j=i:=by have h:((j:Nat):Int)=((i:Nat):Int):=f;omega
 subst h;have g:T[j]=t:=by rw[XQ m]at ht;injection ht
 rw[g];have c:=n.mem t (YQ ht);obtain⟨a,h1,h2⟩:=qu_ c.1;obtain⟨b,k,l⟩:=qu_ c.2;exact⟨a,b,h1,k,rfl,h2,l⟩
theorem Gp_ {T:List e_} {i:Nat} (hi:i<T.length):((i:Nat):Int)∈(a3_ T).edges.map l_.id:=
 List.mem_map.2 ⟨_,List.mem_mapIdx.2 ⟨i,hi,rfl⟩,rfl⟩
theorem L5_ {T:List e_} (g:ay_ T) {i k:Nat} {v u:g_} (m:(U_ T)[i]?=QJ v) (l:(U_ T)[k]?=QJ u) (h:k<i):c6_ v u=false:=by
 have j:(U_ T).Nodup:=g.vals.1.imp fun {a b} h e=>by rw[e,eb_]at h;omega
 refine b9_ λe=>?_;subst e;obtain⟨h1,c⟩:=List.getElem?_eq_some_iff.1 m;obtain⟨h2,f⟩:=List.getElem?_eq_some_iff.1 l;have:=(List.getElem_inj j).1 (c.trans f.symm);omega
theorem Af_ (L:List e_) (c4:∀t,t∈L->OkT t) (F:Nat->Prop) (A:Option Addr) (n0 cp:Nat) (w:QV) (hF:∀b,F b->b<w.heap.size) (hL:SRd 18 TrR w F L A n0) (hn:n0<=1000000000) (c0:aa_ w) (c2:b4_ w) :
    Calls QW 8 #[QQ A n0 cp] w (p_ true w):=by
 have HG:=q_ (And.intro c0 c2);have cz:=q_ c4;have cl:=q_ (m9_ L c4 F A n0 cp w hF hL hn c0 c2);have bu:=q_ (λ(W:QV) (hb:XU w.heap.size w W)=>xo_ (cp:=cp) L c4 (hL.under TrR.good hb hF) (λb h=>XY (hF b h) hb.size) hn);have HW:=q_ (λ(W:QV) (hb:XU w.heap.size w W)=>(Au_ W (k_ c0 hb) (I_ c2 hb)).mono (λe w' (h:p_ true W e w')=>(⟨h.1,hb.trans (h.2.mono hb.size)⟩:p_ true w e w')));unfold kz_ at cl;unfold h3_ at bu;unfold p_ at HW;clear hL c4 c0 c2 hF hn;go_enter Tryz.func8,Tryz.ntmps8
 go_upto_region 1 with fail;by_cases fg:40<n0
 ·have e1:(40:Int)<n0:=by omega
  go_wp2_with fail;refine (HW.o _ (XV _ _)).mono ?_;rintro e M ⟨rfl,ab⟩;have aa:=q_ ab;clear ab;go_wp2_with fail;go_ret;exact⟨rfl,aa.o⟩
 ·have e1:¬(40:Int)<n0:=by omega
  clear fg;go_wp2_with fail;refine cl.o.mono ?_;rintro e w2 (⟨dj,rfl,hb⟩ | ⟨dg,au,NV,EV,rfl,am,hb⟩)
  ·have O:=q_ hb;clear hb dj;obtain⟨N,ah⟩:=a_ w2.heap.size;obtain⟨wa,a7⟩:=a_ (w2.alloc (XX #[QQ QY 0 0,QQ QY 0 0] 54));have a3:=q_ (show XU w2.heap.size w2 wa from by rw[<-a7.o];exact (XV _ _).alloc (XJ _) _);have ay:=q_ (show wa.heap[N]?=QJ (XX #[QQ QY 0 0,QQ QY 0 0] 54 (0,0)) from by rw[<-a7.o,<-ah.o];exact heap_alloc_new w2 _);go_upto_region 4 with ((with_reducible refine y_ 3 ?_);rw[a7.o,ah.o];refine r_ rfl 54 _ _ rfl N (#[QQ QY 0 0,QQ QY 0 0]) (#[QQ QY 0 0,QQ QY 0 0]) 54 rfl rfl ay.o rfl (J_ _ _) (do_ _ _ _ _ _ _) ?_;intro w4 aj bh)
   have ac:=q_ (show XU w2.heap.size w2 w4 from i_ a3.o bh (λb e=>by have e:b=N:=e;have h2:w2.heap.size=N:=ah.o;omega));have av:=q_ (O.o.trans (ac.o.mono O.o.size));have p0:w4.cell? ⟨N,0,QY⟩=QJ (QQ QY 0 0):=QX aj 0;have p1:w4.cell? ⟨N,1,QY⟩=QJ (QQ QY 0 0):=QX aj 1;clear aj bh a7 ay a3;go_wp2_with fail;refine (HW.o _ av.o).mono ?_;rintro e M ⟨rfl,ab⟩;have aa:=q_ ab;clear ab;go_wp2_with fail;go_ret;exact⟨rfl,aa.o⟩
  ·have O:=q_ hb;have fn:=q_ (And.intro dg au);have m:=q_ (Ht_ dg au cz.o);have bs:=q_ (show ∀t,t∈au_ (s_ (ae_ 0)) L->∀n,bt_ (t.get n) from λt ht n=>((cz.o t (Hu_ au cz.o ht)).get n).fit);obtain⟨T,HT⟩:=a_ (au_ (s_ (ae_ 0)) L);rw[HT.o]at m am bu bs;obtain⟨N',E',e,⟨A1,c1,eN,dh,dn⟩,⟨B1,d1,eE,gg,gl⟩⟩:=id am;subst eN;subst eE;injection e with e;have e3:=congrArg (λa:Array XZ=>a[0]?) e;have e4:=congrArg (λa:Array XZ=>a[1]?) e;simp at e3 e4;subst e3;subst e4;have b5:Q_ ((a3_ T).nodes.length=(U_ T).length):=q_ (List.length_mapIdx);obtain⟨P,fr⟩:=a_ (a3_ T).nodes.length;obtain⟨n,HN⟩:=a_ T.length;have fq:Q_ ((a3_ T).edges.length=n):=q_ (by rw[<-HN.o];exact List.length_mapIdx);rw[fr.o]at am dn b5 ⊢;rw[fq.o]at am ⊢;have bt:=q_ (λ(W:QV) (hb:XU w2.heap.size w2 W)=>am.under hb (λb h=>h.2));have fp:=q_ (λ(W:QV) (hb:XU w2.heap.size w2 W)=>dn.under NoR.good hb (λb h=>h.2));have ct:=q_ (show n<=65536 from by have:=m.o.len;have:=HN.o;omega);have g2:=q_ (show P<=131072 from by have:=m.o.vlen;have:=b5.o;omega);clear am hb e dh gg dn gl dg au;obtain⟨N,ah⟩:=a_ w2.heap.size;obtain⟨wa,a7⟩:=a_ (w2.alloc (XX #[QQ QY 0 0,QQ QY 0 0] 54));have a3:=q_ (show XU w2.heap.size w2 wa from by rw[<-a7.o];exact (XV _ _).alloc (XJ _) _);have ay:=q_ (show wa.heap[N]?=QJ (XX #[QQ QY 0 0,QQ QY 0 0] 54 (0,0)) from by rw[<-a7.o,<-ah.o];exact heap_alloc_new w2 _);go_upto_region 4 with ((with_reducible refine y_ 3 ?_);rw[a7.o,ah.o];refine r_ rfl 54 _ _ rfl N (#[QQ QY 0 0,QQ QY 0 0]) (#[QQ A1 P c1,QQ B1 n d1]) 54 rfl rfl ay.o rfl (J_ _ _) (do_ _ _ _ _ _ _) ?_;intro w4 aj bh)
   have ac:=q_ (show XU w2.heap.size w2 w4 from i_ a3.o bh (λb e=>by have e:b=N:=e;have h2:w2.heap.size=N:=ah.o;omega));have av:=q_ (O.o.trans (ac.o.mono O.o.size));have fm:=q_ aj;have g5:=q_ (show N<w4.heap.size from b_ aj);have af:=q_ (λ(W:QV) (hb:XU w4.heap.size w4 W)=>(hb.block N g5.o).trans fm.o);clear aj bh a7 ay a3;go_wp2_with fail;refine (bu.o w4 av.o).mono ?_;rintro e w5 (⟨dj,_⟩ | ⟨_,_,v5,rfl,ai,hb⟩)
   ·exact absurd fn.o dj
   ·obtain⟨A5,c5,rfl,_,dm⟩:=ai.rd TrR.good;have bm:=q_ hb;have dy:=q_ (av.o.trans (hb.mono av.o.size));have bk:=q_ (ac.o.trans (hb.mono ac.o.size));rw[HN.o]at dm ⊢;have eg:=q_ (λ(W:QV) (hb:XU w5.heap.size w5 W)=>dm.under TrR.good hb (λb h=>h.2));have d3:=q_ (λ(W:QV) (hb:XU w2.heap.size w2 W)=>ma_ (a3_ T) m.o.fit _ _ W (λb h=>XY h.2 hb.size) (bt.o W hb) m.o.num (k_ HG.o.1 (O.o.trans (hb.mono O.o.size))) (I_ HG.o.2 (O.o.trans (hb.mono O.o.size))));unfold mh_ at d3;clear ai hb dm cl bu;go_wp2_with ((with_reducible refine d_ (some 56) ?_);refine x_ rfl 54 _ rfl N 0 rfl (#[QQ A1 P c1,QQ B1 n d1]) _ (m_ (af.o w5 bm.o)) Tryz.underlying54 rfl (J_ _ _) ?_)
    refine (d3.o w5 bk.o).mono ?_;rintro e w6 ⟨hb,bc⟩
    obtain⟨v6,rfl,ai⟩:∃s,e = XW (YY #[s,QK QU 0])/\D_ 41 18 TrR w6 (λb=>w5.heap.size<=b/\b<w6.heap.size) T s:=by
     rcases bc with⟨hm,_⟩ | ⟨_,G,hG,⟨h1,_⟩ | ⟨T',s,h1,h2,h3⟩⟩
     ·rw[m.o.graph]at hm
      cases hm
     ·rw[m.o.plain hG,m.o.back]at h1
      cases h1
     ·rw[m.o.plain hG,m.o.back]at h1;injection h1 with h1;subst h1;exact⟨s,h2,h3⟩
    obtain⟨A6,c6,rfl,_,f6⟩:=ai.rd TrR.good;have ce:=q_ hb;have dz:=q_ (dy.o.trans (hb.mono dy.o.size));have c9:=q_ (bk.o.trans (hb.mono bk.o.size));have cc:=q_ (bm.o.trans (hb.mono bm.o.size));have bb:=v6_ (ca:=c6) (cb:=c5) f6 (eg.o w6 hb) (λb h=>h.2) (λb h=>XY h.2 hb.size) (by have:=ct.o;have:=HN.o;omega) (λt ht i=>by rw[ec_ ((m.o.scal t ht).get i)];decide);rw[ho_.2 rfl]at bb;rw[HN.o]at bb ⊢;unfold p_ at bb;clear ai f6 hb bc d3;go_wp2_with fail;refine bb.mono ?_;rintro e w7 ⟨rfl,hb⟩;have e0:=q_ (dz.o.trans (hb.mono dz.o.size));have cf:=q_ (ce.o.trans (hb.mono ce.o.size));have bl:=q_ (c9.o.trans (hb.mono c9.o.size));have ar:=q_ (cc.o.trans (hb.mono cc.o.size));have ck:=q_ (λ(W:QV) (hb:XU w2.heap.size w2 W)=>im_ (a3_ T) m.o.fit _ _ W (λb h=>XY h.2 hb.size) (bt.o W hb) (k_ HG.o.1 (O.o.trans (hb.mono O.o.size))));unfold i9_ at ck;have e2:((n:Int) != (n:Int))=false:=by simp
    have p1:w7.cell? ⟨N,1,QY⟩=QJ (QQ B1 n d1):=QX (af.o w7 ar.o) 1;clear hb bb;go_wp2_with ((with_reducible refine d_ (some 81) ?_);refine x_ rfl 54 _ rfl N 0 rfl (#[QQ A1 P c1,QQ B1 n d1]) _ (m_ (af.o w7 ar.o)) Tryz.underlying54 rfl (J_ _ _) ?_)
    refine (ck.o w7 bl.o).mono ?_;rintro e w8 ⟨hb,bc⟩
    obtain⟨p,g',rfl,c7,f7⟩:∃p g',e = XW (YY #[YX (QJ ⟨p,0,QY⟩),QK QU 0])/\ee_ w8 w7.heap.size p g'/\hx_ (a3_ T) g':=by
     rcases bc with⟨hm,_⟩ | ⟨_,p,g',e1,e2,e3⟩
     ·rw[m.o.graph]at hm
      cases hm
     ·exact⟨p,g',e1,e2,e3⟩
    have gi:=re_ m.o.graph f7 m.o.srt;subst gi;obtain⟨Ns,Es,mh,mt,ma,gm,n1,c7⟩:=c7;have e5:=q_ (e0.o.trans (hb.mono e0.o.size));have ap:=q_ (bl.o.trans (hb.mono bl.o.size));have bn:=q_ (ar.o.trans (hb.mono ar.o.size));have cg:=q_ (cf.o.trans (hb.mono cf.o.size));have fz:=q_ (λ(W:QV) (hb:XU w8.heap.size w8 W)=>c7.turn (Turn.of_below hb) (λb _ h2 h3=>by have h3:w8.heap.size<=b:=h3;omega));have c3:=H5_ (a3_ T) m.o.fit _ _ w8 (λb h=>XY h.2 ap.o.size) (bt.o w8 ap.o);rw[m.o.graph]at c3;unfold p_ at c3;clear hb bc c7 f7 p1 e2 ck;go_wp2_with ((with_reducible refine d_ (some 92) ?_);refine E_ (by rfl) 54 _ rfl rfl (#[QQ A1 P c1,QQ B1 n d1]) _ (Ah_ (af.o w8 bn.o)) Tryz.underlying54 rfl (J_ _ _) ?_)
    refine c3.mono ?_;rintro e M ⟨rfl,hb⟩;have aa:=q_ (e5.o.trans (hb.mono e5.o.size));have aq:=q_ (ap.o.trans (hb.mono ap.o.size));have cd:=q_ (bn.o.trans (hb.mono bn.o.size));have ch:=q_ (cg.o.trans (hb.mono cg.o.size));have ci:=q_ hb;have az:=q_ (λ(W:QV) (hb:XU M.heap.size M W)=>af.o W (cd.o.trans (hb.mono cd.o.size)));have co:=q_ (λ(W:QV) (hb:XU M.heap.size M W)=>(QX (az.o W hb) 0:W.cell? ⟨N,0,QY⟩=QJ (QQ A1 P c1)));have a3:=q_ (λ(i:Nat) (v:g_) (hv:(U_ T)[i]?=QJ v) (W:QV) (hb:XU M.heap.size M W)=>(show Calls QW 35 #[.agg #[QQ A1 P c1,QQ B1 n d1],.agg (Bh_ i)] W (o3_ v W) from by have h2:=aq.o.trans (hb.mono aq.o.size);exact Cc_ m.o i hv _ _ W (λb h=>XY h.2 h2.size) (bt.o W h2) (k_ HG.o.1 (O.o.trans (h2.mono O.o.size)))))
    have e7:=q_ (λ(i:Nat) (hi:i<n) (W:QV) (hb:XU M.heap.size M W)=>(show Calls QW 34 #[YX (QJ ⟨p,0,QY⟩),QK QU ((i:Nat):Int)] W (tv_ (a3_ T) ((i:Nat):Int) W) from
     Go_ (a3_ T) w7.heap.size p Ns Es mh mt ma gm n1 ((i:Nat):Int) W (fz.o W (ci.o.trans (hb.mono ci.o.size))) (rj_ (by have:=ct.o;omega)) (Gp_ (by have:=HN.o;omega)) (λx hx=>⟨(m.o.fit.2.2.2 x hx).1,(lj_ m.o.graph).2 x hx⟩)))
    have cm:=q_ (λ(i:Nat) (hi:i<P) (W0:QV) (ge:XU M.heap.size M W0)=>(show ∃ad,A1=QJ ad/\Q_ (∀W,XU W0.heap.size W0 W->W.cell? (ad.add (i*3))=QJ (QK QU (i:Nat))) from by
     have h0:=aq.o.trans (ge.mono aq.o.size);obtain⟨v,hv⟩:∃v,(U_ T)[i]?=QJ v:=⟨_,XQ (by have:=b5.o;omega)⟩;have gk:(a3_ T).nodes[i]?=QJ (L_ (i:Nat) v):=by show ((U_ T).mapIdx λi v=>L_ (i:Nat) v)[i]?=_;rw[List.getElem?_mapIdx,hv];rfl
     obtain⟨ev,cN,eA,gh,gs,dh,LL,PP,eN,-,-⟩:=(fp.o W0 h0).at_ gk;rw[bn_]at eN;refine⟨ev,eA,q_ λW hb=>(hb.cell (p:=ev.add (i*3)) (by rw[N_];exact XY gh.2 h0.size)).trans ?_⟩;have h:=dh 0 (by omega);rw[eN]at h;exact h))
    have bw:=q_ (λ(v u:g_) (hv:o6_ v) (hu:o6_ u) (A B:Option Addr) (q r:Nat) (W:QV)=>Ed_ hv hu A B q r W);unfold tv_ at e7;unfold p_ at bw;clear hb c3;go_wp2_with fail;go_loopw [11] (λdr R=>∃i:Nat,i<=n/\dr = QK QU (i:Nat)/\Q_ (XU M.heap.size M R)) (λdr _=>n-(intOf dr).toNat)
    case atStart=>exact⟨0,by omega,rfl,q_ (XV _ _)⟩
    case round=>
     obtain⟨i,hi,rfl,hM⟩:=hrel;have gr:=ct.o;by_cases ao:i<n
     ·have a1:(0:Int)<=i:=by omega
      have a2:(i:Int)<n:=by omega
      obtain⟨t,ht⟩:∃t,T[i]?=QJ t:=⟨_,XQ (by rw[HN.o];exact ao)⟩;have ej:=q_ ht;have ei:=q_ (YQ ht);clear ht;go_wp2_with fail;refine (e7.o i ao wr hM.o).mono ?_;rintro e R ⟨x,Bx,rx,cx,hx,dq,rfl,hb⟩;obtain⟨a,b,ey,ez,f0,f9,fa⟩:=Gq_ m.o ej.o hx dq;rw[dq,ey,ez,f0];have g0:=q_ f9;have g1:=q_ fa;have ed:=q_ (hM.o.trans (hb.mono hM.o.size));clear hx dq ey ez f0 f9 fa hb;obtain⟨tx,es⟩:=a_ t.p.text;rw[es.o];obtain⟨X,dd⟩:=a_ R.heap.size;obtain⟨wm,bx⟩:=a_ (R.alloc (XX #[QK QU 0,QK QU 0,QK QU 0,QZ ⟨#[]⟩,QQ QY 0 0] 74));have eb:=q_ (show XU R.heap.size R wm from by rw[<-bx.o];exact (XV _ _).alloc (XJ _) _);have ec:=q_ (show wm.heap[X]?=QJ (XX #[QK QU 0,QK QU 0,QK QU 0,QZ ⟨#[]⟩,QQ QY 0 0] 74 (0,0)) from by rw[<-bx.o,<-dd.o];exact heap_alloc_new R _);go_upto_region 17 with ((with_reducible refine y_ 12 ?_);rw[bx.o,dd.o];refine r_ rfl 74 _ _ rfl X (#[QK QU 0,QK QU 0,QK QU 0,QZ ⟨#[]⟩,QQ QY 0 0]) (#[QK QU (i:Nat),QK QU (a:Nat),QK QU (b:Nat),QZ tx,QQ Bx rx cx]) 74 rfl rfl ec.o rfl (Hm_ _ _ _ _ _) (Lj_ _ _ _ _ _ _ _) ?_;intro D fd f8)
      have g4:=q_ (show XU R.heap.size R D from i_ eb.o f8 (λb e=>by have e:b=X:=e;have h2:R.heap.size=X:=dd.o;omega));have ee:=q_ (ed.o.trans (g4.o.mono ed.o.size));have ep:=q_ fd;have a0:=q_ (λ(W:QV) (hb:XU D.heap.size D W)=>(hb.block X (b_ ep.o)).trans ep.o);have E:=q_ (λ(W:QV) (hb:XU D.heap.size D W)=>ee.o.trans (hb.mono ee.o.size));clear fd f8 bx eb ec;have cw:=q_ (le_ a);have cy:=q_ (le_ b);have bq:=q_ (λ(W:QV) (hb:XU D.heap.size D W)=>a3.o a t.s g0.o W (E.o W hb));have br:=q_ (λ(W:QV) (hb:XU D.heap.size D W)=>a3.o b t.o g1.o W (E.o W hb));unfold o3_ at bq br;obtain⟨ka,eq⟩:=w1_ a;obtain⟨kb,er⟩:=w1_ b;rw[eq.o]at cw bq;rw[er.o]at cy br;clear eq er;have mc:D.cell? ⟨X,1,QY⟩=QJ (QK QU (a:Nat)):=(QX (a0.o D (XV D.heap.size D)) 1)
      go_wp2_with (first
       | ((with_reducible refine d_ (some 109) ?_);refine x_ rfl 54 _ rfl N 0 rfl (#[QQ A1 P c1,QQ B1 n d1]) _ (m_ (az.o D (E.o D (XV D.heap.size D)))) Tryz.underlying54 rfl (J_ _ _) ?_)
       | ((with_reducible refine d_ (some 112) ?_);refine af_ rfl 39 _ rfl #[(0,QK QU 6),(2,QK QU (a:Nat))] (by kernel_rfl) (.agg ka) (cw.o _) ?_))
      refine (bq.o D (XV D.heap.size D)).mono ?_;rintro e V ⟨Am,qm,rfl,hb⟩;have d0:=q_ (show XU D.heap.size D V from ((XV D.heap.size D)).trans (hb.mono ((XV D.heap.size D)).size));clear hb mc;obtain⟨sm,d8⟩:=a_ (Value.slice Am 0 qm);rw[d8.o];obtain⟨um,b9⟩:=v_ t.s sm;rw[b9.o];have gc:=q_ b9.size;have et:=q_ (ad_.trans (congrArg QJ b9.size.symm));have ga:=q_ (show um.all (·.oneCell')=true from by rw[<-b9.o,<-d8.o];kernel_rfl);obtain⟨zm,de⟩:=a_ V.heap.size;obtain⟨wl,a8⟩:=a_ (V.alloc (XX #[QK QU 0,XK false,QK QU 0,QZ ⟨#[]⟩,QZ ⟨#[]⟩,QQ QY 0 0] 39));have b0:=q_ (show XU V.heap.size V wl from by rw[<-a8.o];exact (XV _ _).alloc (XJ _) _);have b4:=q_ (show wl.heap[zm]?=QJ (XX #[QK QU 0,XK false,QK QU 0,QZ ⟨#[]⟩,QZ ⟨#[]⟩,QQ QY 0 0] 39 (0,0)) from by rw[<-a8.o,<-de.o];exact heap_alloc_new V _);go_upto_region 18 with ((with_reducible refine y_ 14 ?_);rw[a8.o,de.o];refine r_ rfl 39 _ _ rfl zm (#[QK QU 0,XK false,QK QU 0,QZ ⟨#[]⟩,QZ ⟨#[]⟩,QQ QY 0 0]) um 39 rfl rfl b4.o gc.o et.o ga.o ?_;intro a9 bj bi)
      have eo:=q_ (show XU V.heap.size V a9 from i_ b0.o bi (λb e=>by have e:b=zm:=e;have h2:V.heap.size=zm:=de.o;omega));have b6:=q_ (show XU D.heap.size D a9 from d0.o.trans (eo.o.mono d0.o.size));have em:=q_ bj;clear bj bi a8 b0 b4 eo d0;have oc:a9.cell? ⟨X,2,QY⟩=QJ (QK QU (b:Nat)):=(QX (a0.o a9 b6.o) 2)
      go_wp2_with (first
       | ((with_reducible refine d_ (some 117) ?_);refine x_ rfl 54 _ rfl N 0 rfl (#[QQ A1 P c1,QQ B1 n d1]) _ (m_ (az.o a9 (E.o a9 b6.o))) Tryz.underlying54 rfl (J_ _ _) ?_)
       | ((with_reducible refine d_ (some 120) ?_);refine af_ rfl 39 _ rfl #[(0,QK QU 6),(2,QK QU (b:Nat))] (by kernel_rfl) (.agg kb) (cy.o _) ?_))
      refine (br.o a9 b6.o).mono ?_;rintro e V ⟨Ao,qo,rfl,hb⟩;have cq:=q_ hb;have d2:=q_ (show XU D.heap.size D V from (b6.o).trans (hb.mono (b6.o).size));clear hb oc;obtain⟨so,d9⟩:=a_ (Value.slice Ao 0 qo);rw[d9.o];obtain⟨uo,ba⟩:=v_ t.o so;rw[ba.o];have gd:=q_ ba.size;have eu:=q_ (ad_.trans (congrArg QJ ba.size.symm));have gb:=q_ (show uo.all (·.oneCell')=true from by rw[<-ba.o,<-d9.o];kernel_rfl);obtain⟨zo,df⟩:=a_ V.heap.size;obtain⟨wl,a8⟩:=a_ (V.alloc (XX #[QK QU 0,XK false,QK QU 0,QZ ⟨#[]⟩,QZ ⟨#[]⟩,QQ QY 0 0] 39));have b0:=q_ (show XU V.heap.size V wl from by rw[<-a8.o];exact (XV _ _).alloc (XJ _) _);have b4:=q_ (show wl.heap[zo]?=QJ (XX #[QK QU 0,XK false,QK QU 0,QZ ⟨#[]⟩,QZ ⟨#[]⟩,QQ QY 0 0] 39 (0,0)) from by rw[<-a8.o,<-df.o];exact heap_alloc_new V _);go_upto_region 19 with ((with_reducible refine y_ 16 ?_);rw[a8.o,df.o];refine r_ rfl 39 _ _ rfl zo (#[QK QU 0,XK false,QK QU 0,QZ ⟨#[]⟩,QZ ⟨#[]⟩,QQ QY 0 0]) uo 39 rfl rfl b4.o gd.o eu.o gb.o ?_;intro C bj bi)
      have d7:=q_ (show XU V.heap.size V C from i_ b0.o bi (λb e=>by have e:b=zo:=e;have h2:V.heap.size=zo:=df.o;omega));have b7:=q_ (show XU D.heap.size D C from d2.o.trans (d7.o.mono d2.o.size));have en:=q_ bj;have g3:=q_ (cq.o.trans (d7.o.mono cq.o.size));clear bj bi a8 b0 b4 d7 d2 cq;have bz:=q_ (show XU a9.heap.size a9 C from g3.o);have eh:=q_ (ch.o.trans ((E.o C b7.o).mono ch.o.size));obtain⟨ad,c8,rfl,f4,fh,f3,f5⟩:=(eg.o C eh.o).at_ ej.o;have ag:=q_ (wr_ (m.o.scal t ei.o) (bs.o t ei.o));obtain⟨-,ss,dp,rfl⟩:=TrR.cellT f5 ag.o
      have hq:=λ(W:QV) (hb:XU C.heap.size C W) (j:Nat) (hj:j<18)=>(show W.cell? (ad.add (i*18+j))=(K_ t ss)[j]? from
       (hb.cell (p:=ad.add (i*18+j)) (by rw[N_];exact XY f4.2 eh.o.size)).trans (f3 j hj))
      have dk:=λ(W:QV) (hb:XU C.heap.size C W) (j:Nat) (hj:j<(c_ t.s (ss 0)).size)=>(show W.cell? ((ad.add (i*18)).add j)=(c_ t.s (ss 0))[j]? from by have di:j<6:=hj;have h1:=u_ t ss 0 (by omega) j di;rw[Nat.zero_mul,Nat.zero_add]at h1;rw[add_of_add,hq W hb j (by omega),h1];rfl);have dl:=λ(W:QV) (hb:XU C.heap.size C W) (j:Nat) (hj:j<(c_ t.o (ss 2)).size)=>(show W.cell? (((ad.add (i*18)).add 12).add j)=(c_ t.o (ss 2))[j]? from by have di:j<6:=hj;have h1:=u_ t ss 2 (by omega) j di;rw[add_of_add,add_of_add,hq W hb (12+j) (by omega),<-(show c_ (t.get 2) (ss 2)=c_ t.o (ss 2) from rfl),<-h1]);have fv:=q_ (λ(W:QV) (hb:XU C.heap.size C W)=>(show W.cell? ⟨(ad.add (i*18)).block,(ad.add (i*18)).off+6+3,QY⟩=QJ (QZ tx) from by have h1:=u_ t ss 1 (by omega) 3 (by omega);show W.cell? (((ad.add (i*18)).add 6).add 3)=_;rw[add_of_add,add_of_add,hq W hb (6+3) (by omega),<-es.o];exact h1));obtain⟨fi,gn,f1⟩:=dp 0 (by omega);obtain⟨fj,go,f2⟩:=dp 2 (by omega);have bd:=λ(W:QV)=>bw.o t.s t.s (ag.o 0) (ag.o 0) Am fi qm gn W;have bf:=λ(W:QV)=>bw.o t.o t.o (ag.o 2) (ag.o 2) Ao fj qo go W;rw[hm_,<-f1,d8.o]at bd;rw[hm_,<-f2,d9.o]at bf;rw[b9.o]at bd;rw[ba.o]at bf;obtain⟨us,dc⟩:=v_ t.s (ss 0);obtain⟨fe,bp⟩:=v_ t.o (ss 2);rw[dc.o]at bd dk;rw[bp.o]at bf dl;have fw:=q_ bd;have fx:=q_ bf;have fs:=q_ dk;have ft:=q_ dl;have g9:=q_ (ad_.trans (congrArg QJ dc.size.symm));have g8:=q_ (ad_.trans (congrArg QJ bp.size.symm))
      have cu:=q_ (λ(W:QV) (hb:XU C.heap.size C W)=>(show W.heap[zm]?=QJ (XX um 39 (0,0))/\W.heap[zo]?=QJ (XX uo 39 (0,0))/\W.cell? ⟨X,3,QY⟩=QJ (QZ tx) from by
       refine⟨?_,(hb.block zo (b_ en.o)).trans en.o,?_⟩
       ·have h:=bz.o.trans (hb.mono bz.o.size);exact (h.block zm (b_ em.o)).trans em.o
       ·have h:=b7.o.trans (hb.mono b7.o.size);exact QX (a0.o W h) 3))
      clear f4 fh f3 f5 dp hq dk dl bd bf f1 f2 dc bp cw cy bq br;refine wp_region_held_drew (S:=λW'=>XU C.heap.size C W') (by kernel_rfl) (XV _ _).drew λc=>?_;refine P_.o ?_;refine C_ 0 124 (XK true) c λc=>?_;refine C_ 1 125 (XK false) c λc=>?_;refine C_ 2 126 (XK false) c λc=>?_;refine C_ 3 127 (XK true) c λc=>?_;refine C_ 4 128 (XK false) c λc=>?_;refine C_ 5 129 (XK false) c λc=>?_;refine C_ 6 130 (XK false) c λc=>?_;refine C_ 7 131 (XK true) c λc=>?_;refine C_ 8 132 (XK false) c λc=>?_;refine C_ 9 133 (XK false) c λc=>?_;refine C_ 10 134 (XK false) c λc=>?_;refine C_ 11 135 (YX (QJ ⟨X,3,QY⟩)) c λc=>?_;refine tlW 12 136 (QZ tx) c (λw l=>?_) λc=>?_
      ·have p:=(cu.o w l).2.2;unfold H_;go_simp
      refine C_ 13 137 (QQ (QJ ad) n c5) c λc=>?_;refine C_ 14 138 (QK QU (i:Nat)) c λc=>?_;refine C_ 15 139 (YX (QJ (ad.add (i*18)))) c λc=>?_;refine C_ 16 140 (YX (QJ ((ad.add (i*18)).add 6))) c λc=>?_;refine C_ 17 141 (YX (QJ (((ad.add (i*18)).add 6).add 3))) c λc=>?_;refine tlW 18 142 (QZ tx) c (λw l=>?_) λc=>?_
      ·have p:=fv.o w l;unfold H_;go_simp
      refine C_ 19 143 (XK false) c λc=>?_;refine C_ 20 144 (XK false) c λc=>?_;refine C_ 21 145 (XK false) c λc=>?_;refine tlW 22 146 (.agg um) c (λw l=>?_) λc=>?_
      ·exact n_ (a6_ (cu.o w l).1 39 _ YZ rfl et.o)
      refine C_ 23 147 (QQ (QJ ad) n c5) c λc=>?_;refine C_ 24 148 (QK QU (i:Nat)) c λc=>?_;refine C_ 25 149 (YX (QJ (ad.add (i*18)))) c λc=>?_;refine C_ 26 150 (YX (QJ (ad.add (i*18)))) c λc=>?_;refine tlW 27 151 (.agg us) c (λw l=>?_) λc=>?_
      ·have p:=S_ w (ad.add (i*18)) 39 us _ (fs.o w l) YZ rfl g9.o;exact n_ (by simp only[Instr.loadAt,Instr.sureAddr,Sem.run_bind];exact p)
      refine tlC 28 λK g=>?_;go_simp;refine (fw.o _).mono ?_;rintro e gp ⟨rfl,hb⟩;have ff:=q_ (show XU C.heap.size C gp from c.trans (hb.mono c.size));clear hb;dsimp only;refine tlB g ff.o λc=>?_;clear g K;refine C_ 29 153 (XK false) c λc=>?_;refine C_ 30 154 (XK false) c λc=>?_;refine C_ 31 155 (XK false) c λc=>?_;refine tlW 32 156 (.agg uo) c (λw l=>?_) λc=>?_
      ·exact n_ (a6_ (cu.o w l).2.1 39 _ YZ rfl eu.o)
      refine C_ 33 157 (QQ (QJ ad) n c5) c λc=>?_;refine C_ 34 158 (QK QU (i:Nat)) c λc=>?_;refine C_ 35 159 (YX (QJ (ad.add (i*18)))) c λc=>?_;refine C_ 36 160 (YX (QJ ((ad.add (i*18)).add 12))) c λc=>?_;refine tlW 37 161 (.agg fe) c (λw l=>?_) λc=>?_
      ·have p:=S_ w ((ad.add (i*18)).add 12) 39 fe _ (ft.o w l) YZ rfl g8.o;exact n_ (by simp only[Instr.loadAt,Instr.sureAddr,Sem.run_bind];exact p)
      refine tlC 38 λK g=>?_;go_simp;refine (fx.o _).mono ?_;rintro e I ⟨rfl,hb⟩;have f:=q_ (show XU C.heap.size C I from c.trans (hb.mono c.size));clear hb;dsimp only;refine tlB g f.o λc=>?_;clear g K;refine C_ 39 163 (XK false) c λc=>?_;refine C_ 40 164 (XK false) c λc=>?_;refine⟨wpAnyH_done (by kernel_rfl) ?_ _⟩;clear c;have fo:=q_ (E.o I (b7.o.trans (f.o.mono b7.o.size)));go_wp2_with fail;go_roundw
      case rel=>exact⟨i+1,by omega,by first | rfl | go_num,fo⟩
      case measure=>simp[intOf];omega
     ·have e1:¬(i:Int)<n:=by omega
      have gf:=q_ (show XU M.heap.size M wr from hM.o);clear hi ao hM;go_wp2_with fail;go_loopw [18] (λds R=>∃i:Nat,i<=P/\ds = QK QU (i:Nat)/\Q_ (XU M.heap.size M R)) (λds _=>P-(intOf ds).toNat)
      case atStart=>exact⟨0,by omega,rfl,gf⟩
      case round=>
       rename QV=>wo
       obtain⟨i,hi,rfl,hO⟩:=hrel;have pc:=co.o wo hO.o;by_cases ao:i<P
       ·have a1:(0:Int)<=i:=by omega
        have a2:(i:Int)<P:=by omega
        obtain⟨vi,fb⟩:∃v,(U_ T)[i]?=QJ v:=⟨_,XQ (by have:=b5.o;omega)⟩;have d5:=q_ fb;clear fb;have cn:=q_ ao;go_wp2_with fail;clear pc;go_loopw [19] (λdt R=>∃k:Nat,k<=i/\dt = QK QU (k:Nat)/\Q_ (XU M.heap.size M R)) (λdt _=>i-(intOf dt).toNat)
        case atStart=>exact⟨0,by omega,rfl,hO⟩
        case round=>
         rename QV=>J
         obtain⟨k,hk,rfl,hQ⟩:=hrel;have gt:=g2.o;have gq:=cn.o;by_cases gj:k<i
         ·have b1:(0:Int)<=k:=by omega
          have b2:(k:Int)<i:=by omega
          have b3:(k:Int)<P:=by omega
          obtain⟨vk,fc⟩:∃v,(U_ T)[k]?=QJ v:=⟨_,XQ (by have:=b5.o;omega)⟩;have d6:=q_ fc;clear fc;obtain⟨ew,ea,e8⟩:=cm.o i (by omega) J hQ.o;have dw:=q_ ea;clear ea;have cr:=q_ (λ(W:QV) (hb:XU J.heap.size J W)=>And.intro (co.o W ((hQ.o).trans (hb.mono (hQ.o).size))) (az.o W ((hQ.o).trans (hb.mono (hQ.o).size))));have Z:=q_ (λ(W:QV) (hb:XU J.heap.size J W)=>a3.o i vi d5.o W ((hQ.o).trans (hb.mono (hQ.o).size)));unfold o3_ at Z;have ae:=q_ (le_ i);obtain⟨kn,b8⟩:=w1_ i;rw[b8.o]at Z ae;clear b8;go_upto_region 27 with fail;go_cut [20,21] (λdu dv R=>∃(z:Nat) (Av:Option Addr) (cv:Nat),du = YX (QJ ⟨z,0,QY⟩)/\dv = XK true/\Q_ (R.heap[z]?=QJ (XX (c_ vi (QQ Av 0 cv)) 39 (0,0))/\XU J.heap.size J R))
          case first=>
           refine wp_region_held_drew (S:=λW'=>XU J.heap.size J W') (by kernel_rfl) (XV _ _).drew λc=>?_;refine P_.o ?_;refine tlW 0 178 (.agg #[QQ A1 P c1,QQ B1 n d1]) c (λw l=>?_) λc=>?_
           ·exact n_ (a6_ (cr.o w l).2 54 _ Tryz.underlying54 rfl (J_ _ _))
           refine C_ 1 179 (YX (QJ ⟨N,0,QY⟩)) c λc=>?_;refine tlW 2 180 (QQ A1 P c1) c (λw l=>?_) λc=>?_
           ·have p:=(cr.o w l).1;unfold H_;go_simp
           refine C_ 3 181 (QK QU (i:Nat)) c λc=>?_;refine tlW 4 182 (YX (QJ (ew.add (i*3)))) c (λw l=>?_) λc=>?_
           ·have ea:=dw.o;subst ea;unfold H_;go_simp
           refine C_ 5 183 (YX (QJ (ew.add (i*3)))) c λc=>?_;refine tlW 6 184 (QK QU (i:Nat)) c (λw l=>?_) λc=>?_
           ·have p:=e8.o w l;unfold H_;go_simp
           refine tlW 7 185 (.agg kn) c (λw l=>?_) λc=>?_
           ·exact dk_ _ _ #[(0,QK QU 6),(2,QK QU (i:Nat))] _ (by kernel_rfl) (ae.o w)
           refine cb_ 8 12 (by kernel_rfl) (by rfl) (by rfl) (λK g=>?_) λK g=>?_
           ·change Oper.wp _ ⟨some 186,_,_,_,_,_⟩ _ _ _ _;go_simp;refine (Z.o _ c).mono ?_;rintro e I ⟨Av,cv,rfl,hb⟩;have f:=q_ (show XU J.heap.size J I from c.trans (hb.mono c.size));clear hb;obtain⟨U,y⟩:=v_ vi (QQ Av 0 cv);rw[y.o];have SR:=q_ y.size;have IR:=q_ (ad_.trans (congrArg QJ y.size.symm));have OR:=q_ (show U.all (·.oneCell')=true from by rw[<-y.o];kernel_rfl);dsimp only;refine tlB g f.o λc=>?_;clear g K;refine C_ 9 177 (YY #[.agg U,XK true]) c λc=>?_;refine C_ 10 187 (.agg U) c λc=>?_;refine C_ 11 188 (XK true) c λc=>?_;refine tlC 12 λK g=>?_;go_simp;refine tlB g (f.o.alloc f.o.size _) λc=>?_;clear g K;refine tlC 13 λK g=>?_;refine e5_ 39 _ _ rfl I.heap.size (#[QK QU 0,XK false,QK QU 0,QZ ⟨#[]⟩,QZ ⟨#[]⟩,QQ QY 0 0]) U 39 rfl rfl (heap_alloc_new I _) (SR.o) IR.o OR.o λak a5 a4=>?_;have Y:=q_ (show XU J.heap.size J ak from i_ (f.o.alloc f.o.size _) a4 (λb e=>by have e:b=I.heap.size:=e;have:=f.o.size;omega));dsimp only;refine tlB g Y.o λc=>?_;clear g K;refine C_ 14 21 (XK true) c λc=>?_;refine⟨wpAnyH_done (by kernel_rfl) ?_ _⟩;clear c;go_wp2_with fail;go_meet;exact⟨_,Av,cv,rfl,rfl,q_ ⟨by rw[y.o];exact a5,Y.o⟩⟩
           ·change Oper.wp _ ⟨some 20,_,_,_,_,_⟩ _ _ _ _;go_simp;obtain⟨we,E⟩:=a_ (J.alloc (XX #[QK QU 0,XK false,QK QU 0,QZ ⟨#[]⟩,QZ ⟨#[]⟩,QQ QY 0 0] 39)).drew;obtain⟨X,a0⟩:=a_ J.heap.size;have cj:=q_ (show XU J.heap.size J we from by rw[<-E.o];exact ((XV _ _).alloc (XJ _) _).drew);have aw:=q_ (show we.heap[X]?=QJ (XX #[QK QU 0,XK false,QK QU 0,QZ ⟨#[]⟩,QZ ⟨#[]⟩,QQ QY 0 0] 39 (0,0)) from by rw[<-E.o,<-a0.o];exact heap_alloc_new J _);rw[E.o,a0.o];refine g.out _ _ cj.o λc=>?_;clear g K E;(try simp only[Act.put,aT,aZ,aS]);refine tlC 8 λK g=>?_;go_simp;refine (Z.o _ c).mono ?_;rintro e I ⟨Av,cv,rfl,hb⟩;have f:=q_ (show XU J.heap.size J I from c.trans (hb.mono c.size));have bo:=q_ ((hb.block X (b_ aw.o)).trans aw.o);clear hb;obtain⟨U,y⟩:=v_ vi (QQ Av 0 cv);rw[y.o];have SR:=q_ y.size;have IR:=q_ (ad_.trans (congrArg QJ y.size.symm));have OR:=q_ (show U.all (·.oneCell')=true from by rw[<-y.o];kernel_rfl);dsimp only;refine tlB g f.o λc=>?_;clear g K;refine C_ 9 177 (YY #[.agg U,XK true]) c λc=>?_;refine C_ 10 187 (.agg U) c λc=>?_;refine C_ 11 188 (XK true) c λc=>?_;refine tlC 13 λK g=>?_;refine e5_ 39 _ _ rfl X (#[QK QU 0,XK false,QK QU 0,QZ ⟨#[]⟩,QZ ⟨#[]⟩,QQ QY 0 0]) U 39 rfl rfl bo.o (SR.o) IR.o OR.o λak a5 a4=>?_;have Y:=q_ (show XU J.heap.size J ak from i_ f.o a4 (λb e=>by have e:b=X:=e;have:=a0.o;omega));dsimp only;refine tlB g Y.o λc=>?_;clear g K;refine C_ 14 21 (XK true) c λc=>?_;refine⟨wpAnyH_done (by kernel_rfl) ?_ _⟩;clear c;go_wp2_with fail;go_meet;exact⟨_,Av,cv,rfl,rfl,q_ ⟨by rw[y.o];exact a5,Y.o⟩⟩
          case rest=>
          rename QV=>wc
          obtain⟨zi,Ai,qi,rfl,rfl,h⟩:=hcut;have d4:=q_ h.o.1;have fl:=q_ h.o.2;have a6:=q_ (hQ.o.trans (fl.o.mono hQ.o.size));clear h Z ae cr e8 dw;obtain⟨ex,ea,e9⟩:=cm.o k (by omega) wc a6.o;have dx:=q_ ea;clear ea;have cs:=q_ (λ(W:QV) (hb:XU wc.heap.size wc W)=>And.intro (co.o W ((a6.o).trans (hb.mono (a6.o).size))) (az.o W ((a6.o).trans (hb.mono (a6.o).size))));have Z:=q_ (λ(W:QV) (hb:XU wc.heap.size wc W)=>a3.o k vk d6.o W ((a6.o).trans (hb.mono (a6.o).size)));unfold o3_ at Z;have ae:=q_ (le_ k);obtain⟨kn,b8⟩:=w1_ k;rw[b8.o]at Z ae;clear b8;go_upto_region 28 with fail;go_cut [22,23] (λdu dv R=>∃(z:Nat) (Av:Option Addr) (cv:Nat),du = YX (QJ ⟨z,0,QY⟩)/\dv = XK true/\Q_ (R.heap[z]?=QJ (XX (c_ vk (QQ Av 0 cv)) 39 (0,0))/\XU wc.heap.size wc R))
          case first=>
           refine wp_region_held_drew (S:=λW'=>XU wc.heap.size wc W') (by kernel_rfl) (XV _ _).drew λc=>?_;refine P_.o ?_;refine tlW 0 190 (.agg #[QQ A1 P c1,QQ B1 n d1]) c (λw l=>?_) λc=>?_
           ·exact n_ (a6_ (cs.o w l).2 54 _ Tryz.underlying54 rfl (J_ _ _))
           refine C_ 1 191 (YX (QJ ⟨N,0,QY⟩)) c λc=>?_;refine tlW 2 192 (QQ A1 P c1) c (λw l=>?_) λc=>?_
           ·have p:=(cs.o w l).1;unfold H_;go_simp
           refine C_ 3 193 (QK QU (k:Nat)) c λc=>?_;refine tlW 4 194 (YX (QJ (ex.add (k*3)))) c (λw l=>?_) λc=>?_
           ·have ea:=dx.o;subst ea;unfold H_;go_simp
           refine C_ 5 195 (YX (QJ (ex.add (k*3)))) c λc=>?_;refine tlW 6 196 (QK QU (k:Nat)) c (λw l=>?_) λc=>?_
           ·have p:=e9.o w l;unfold H_;go_simp
           refine tlW 7 197 (.agg kn) c (λw l=>?_) λc=>?_
           ·exact dk_ _ _ #[(0,QK QU 6),(2,QK QU (k:Nat))] _ (by kernel_rfl) (ae.o w)
           refine cb_ 8 12 (by kernel_rfl) (by rfl) (by rfl) (λK g=>?_) λK g=>?_
           ·change Oper.wp _ ⟨some 198,_,_,_,_,_⟩ _ _ _ _;go_simp;refine (Z.o _ c).mono ?_;rintro e I ⟨Av,cv,rfl,hb⟩;have f:=q_ (show XU wc.heap.size wc I from c.trans (hb.mono c.size));clear hb;obtain⟨U,y⟩:=v_ vk (QQ Av 0 cv);rw[y.o];have SR:=q_ y.size;have IR:=q_ (ad_.trans (congrArg QJ y.size.symm));have OR:=q_ (show U.all (·.oneCell')=true from by rw[<-y.o];kernel_rfl);dsimp only;refine tlB g f.o λc=>?_;clear g K;refine C_ 9 189 (YY #[.agg U,XK true]) c λc=>?_;refine C_ 10 199 (.agg U) c λc=>?_;refine C_ 11 200 (XK true) c λc=>?_;refine tlC 12 λK g=>?_;go_simp;refine tlB g (f.o.alloc f.o.size _) λc=>?_;clear g K;refine tlC 13 λK g=>?_;refine e5_ 39 _ _ rfl I.heap.size (#[QK QU 0,XK false,QK QU 0,QZ ⟨#[]⟩,QZ ⟨#[]⟩,QQ QY 0 0]) U 39 rfl rfl (heap_alloc_new I _) (SR.o) IR.o OR.o λak a5 a4=>?_;have Y:=q_ (show XU wc.heap.size wc ak from i_ (f.o.alloc f.o.size _) a4 (λb e=>by have e:b=I.heap.size:=e;have:=f.o.size;omega));dsimp only;refine tlB g Y.o λc=>?_;clear g K;refine C_ 14 23 (XK true) c λc=>?_;refine⟨wpAnyH_done (by kernel_rfl) ?_ _⟩;clear c;go_wp2_with fail;go_meet;exact⟨_,Av,cv,rfl,rfl,q_ ⟨by rw[y.o];exact a5,Y.o⟩⟩
           ·change Oper.wp _ ⟨some 22,_,_,_,_,_⟩ _ _ _ _;go_simp;obtain⟨we,E⟩:=a_ (wc.alloc (XX #[QK QU 0,XK false,QK QU 0,QZ ⟨#[]⟩,QZ ⟨#[]⟩,QQ QY 0 0] 39)).drew;obtain⟨X,a0⟩:=a_ wc.heap.size;have cj:=q_ (show XU wc.heap.size wc we from by rw[<-E.o];exact ((XV _ _).alloc (XJ _) _).drew);have aw:=q_ (show we.heap[X]?=QJ (XX #[QK QU 0,XK false,QK QU 0,QZ ⟨#[]⟩,QZ ⟨#[]⟩,QQ QY 0 0] 39 (0,0)) from by rw[<-E.o,<-a0.o];exact heap_alloc_new wc _);rw[E.o,a0.o];refine g.out _ _ cj.o λc=>?_;clear g K E;(try simp only[Act.put,aT,aZ,aS]);refine tlC 8 λK g=>?_;go_simp;refine (Z.o _ c).mono ?_;rintro e I ⟨Av,cv,rfl,hb⟩;have f:=q_ (show XU wc.heap.size wc I from c.trans (hb.mono c.size));have bo:=q_ ((hb.block X (b_ aw.o)).trans aw.o);clear hb;obtain⟨U,y⟩:=v_ vk (QQ Av 0 cv);rw[y.o];have SR:=q_ y.size;have IR:=q_ (ad_.trans (congrArg QJ y.size.symm));have OR:=q_ (show U.all (·.oneCell')=true from by rw[<-y.o];kernel_rfl);dsimp only;refine tlB g f.o λc=>?_;clear g K;refine C_ 9 189 (YY #[.agg U,XK true]) c λc=>?_;refine C_ 10 199 (.agg U) c λc=>?_;refine C_ 11 200 (XK true) c λc=>?_;refine tlC 13 λK g=>?_;refine e5_ 39 _ _ rfl X (#[QK QU 0,XK false,QK QU 0,QZ ⟨#[]⟩,QZ ⟨#[]⟩,QQ QY 0 0]) U 39 rfl rfl bo.o (SR.o) IR.o OR.o λak a5 a4=>?_;have Y:=q_ (show XU wc.heap.size wc ak from i_ f.o a4 (λb e=>by have e:b=X:=e;have:=a0.o;omega));dsimp only;refine tlB g Y.o λc=>?_;clear g K;refine C_ 14 23 (XK true) c λc=>?_;refine⟨wpAnyH_done (by kernel_rfl) ?_ _⟩;clear c;go_wp2_with fail;go_meet;exact⟨_,Av,cv,rfl,rfl,q_ ⟨by rw[y.o];exact a5,Y.o⟩⟩
          case rest=>
          rename QV=>wd
          obtain⟨zk,Ak,qk,rfl,rfl,h⟩:=hcut;have el:=q_ h.o.1;have e6:=q_ h.o.2;have ef:=q_ (a6.o.trans (e6.o.mono a6.o.size));have ek:=q_ ((e6.o.block zi (b_ d4.o)).trans d4.o);clear h Z ae cs e9 dx;have bg:=bw.o vi vk (B4_ m.o bs.o vi (YQ d5.o)) (B4_ m.o bs.o vk (YQ d6.o)) Ai Ak qi qk wd;rw[L5_ m.o d5.o d6.o gj]at bg;obtain⟨ui,da⟩:=v_ vi (QQ Ai 0 qi);obtain⟨uk,db⟩:=v_ vk (QQ Ak 0 qk);rw[da.o]at bg ek;rw[db.o]at bg el;have fy:=q_ bg;have g6:=q_ (ad_.trans (congrArg QJ da.size.symm));have g7:=q_ (ad_.trans (congrArg QJ db.size.symm));clear bg da db d4
          go_wp2_with (first
           | ((with_reducible refine d_ (some 201) ?_);refine x_ rfl 39 _ rfl zi 0 rfl ui _ (m_ ek.o) YZ rfl g6.o ?_)
           | ((with_reducible refine d_ (some 202) ?_);refine x_ rfl 39 _ rfl zk 0 rfl uk _ (m_ el.o) YZ rfl g7.o ?_))
          refine fy.o.mono ?_;rintro e wf ⟨rfl,hb⟩;have fu:=q_ (ef.o.trans (hb.mono ef.o.size));clear hb;go_wp2_with fail;go_roundw
          case rel=>exact⟨k+1,by omega,by first | rfl | go_num,fu⟩
          case measure=>simp[intOf];omega
         ·have e1:¬(k:Int)<i:=by omega
          go_wp2_with fail;go_roundw
          case rel=>exact⟨i+1,by have:=cn.o;omega,by first | rfl | go_num,hQ⟩
          case measure=>have:=cn.o;simp[intOf];omega
       ·have e1:¬(i:Int)<P:=by omega
        have fk:=q_ (aa.o.trans (hO.o.mono aa.o.size));clear hi ao;go_wp2_with fail;refine (HW.o _ fk.o).mono ?_;rintro e M ⟨rfl,ab⟩;have aa:=q_ ab;clear ab;go_wp2_with fail;go_ret;exact⟨rfl,aa.o⟩
end
section
open Go Go.ChangeShapes Go.WideShapes Go.ChangeAt Go.RowKit Go.Joins
theorem A9_ (a:Addr) (i j:Nat):(a.add i).add j=a.add (i+j):=Go.Deep.add_add a i j
theorem Jm_ {H:Type} {enc:TypeId×XZ->H} {P:Program} {w:QV} {b:Nat} {a:Nat->Bool} {held:Bool} {t:TypeId} {e f g i j l:Field} {fuel:Nat} {cs:List XZ} {x:DataW H×List MemPlace} (ht:P.underlying t=QJ (.struct #[e,f,g,i,j,l])) (J:P.cellsOf t=6)
    (L:e.offset=0) (M:f.offset=1) (N:g.offset=2) (O:i.offset=3) (R:j.offset=4) (S:l.offset=5) (D:P.cellsOf e.type=1) (E:P.cellsOf f.type=1) (F:P.cellsOf g.type=1) (G:P.cellsOf i.type=1) (c4:P.cellsOf j.type=1) (I:P.cellsOf l.type=1)
    (h:DataW.trod enc P w b a held fuel t cs=QJ x) :
    ∃(m n o q r v5:XZ) (y0 y1 y2 y3 y4 y5:DataW H×List MemPlace) (k:Nat),cs=[m,n,o,q,r,v5]/\x.1 = .agg [y0.1,y1.1,y2.1,y3.1,y4.1,y5.1]/\DataW.trod enc P w b a held k e.type [m]=QJ y0/\DataW.trod enc P w b a held k f.type [n]=QJ y1/\DataW.trod enc P w b a held k g.type [o]=QJ y2/\DataW.trod enc P w b a held k i.type [q]=QJ y3/\DataW.trod enc P w b a held k j.type [r]=QJ y4/\DataW.trod enc P w b a held k l.type [v5]=QJ y5:=by
 obtain⟨xs,k,T,C,s,B,c⟩:=DataW.trod_struct ht h;rw[J]at s;match xs,B,cs,s with
 | [y0,y1,y2,y3,y4,y5],_,[m,n,o,q,r,v5],_=>
  have u:=c 0 e rfl;have v:=c 1 f rfl;have y:=c 2 g rfl;have z:=c 3 i rfl;have g4:=c 4 j rfl;have A:=c 5 l rfl;simp[L,M,N,O,R,S,D,E,F,G,c4,I]at u v y z g4 A;exact⟨m,n,o,q,r,v5,y0,y1,y2,y3,y4,y5,k,rfl,by rw[C];rfl,u,v,y,z,g4,A⟩
theorem tr_ {H:Type} {enc:TypeId×XZ->H} {W:QV} {N:Nat} {held:Bool} {n:Nat} {cs:List XZ} {d:DataW H} {p:List MemPlace}
    (S:∀{fuel:Nat} {v:XZ} {d:DataW H} {p:List MemPlace},Rows.uptoBulk d<=N->DataW.trod enc QW W 0 (λ_=>true) held fuel 37 [v]=QJ (d,p) ->
     ∃A n c l,v = QQ A n c/\n<=c/\LRd W (λg=>g<W.heap.size) l A n/\un_ l/\Z_ l<Rows.uptoBulk d)
    (U:Rows.uptoBulk d<=N+1) (h:DataW.trod enc QW W 0 (λ_=>true) held n 39 cs=QJ (d,p)) :
    ∃x,cs.toArray.size=6/\VRd W (λg=>g<W.heap.size) x (.agg cs.toArray)/\ll_ x/\M_ x<=Rows.uptoBulk d:=by
 obtain⟨X,Y,Z,v3,v4,v5,y0,y1,y2,y3,y4,f,k,rfl,i,J,L,M,O,g4,P⟩:=Jm_ YZ (by kernel_rfl) rfl rfl rfl rfl rfl rfl (by kernel_rfl) (by kernel_rfl) (by kernel_rfl) (by kernel_rfl) (by kernel_rfl) (by kernel_rfl) h;obtain⟨t,e0,C,w0⟩:=DataW.trod_int (by kernel_rfl:Tryz.prog.underlying 3=QJ (.int .i64)) J;obtain⟨u,j,D⟩:=DataW.trod_bool (by kernel_rfl:Tryz.prog.underlying 4=some .bool) L;obtain⟨e,o,E,w2⟩:=DataW.trod_int (by kernel_rfl:Tryz.prog.underlying 2=QJ (.int .i64)) M;obtain⟨a,q,F,w3⟩:=DataW.trod_string (by kernel_rfl:Tryz.prog.underlying 9=some .string) O;obtain⟨b,r,G,w4⟩:=DataW.trod_string (by kernel_rfl:Tryz.prog.underlying 9=some .string) g4;injection e0 with e0 _;injection j with j _;injection o with o _;injection q with q _;injection r with r _;subst e0 j o q r C D E F G;obtain⟨f,V⟩:=f;simp only at i;subst i
 have B:6+a.size+b.size+Rows.uptoBulk f<=Rows.uptoBulk (DataW.agg [.lit (.int .i64 t),.lit (.bool u),.lit (.int .i64 e),.lit (.string a.data.toList),.lit (.string b.data.toList),f]):=by
  have z3:a.data.toList.length=a.size:=by rw[Array.length_toList];rfl
  have z4:b.data.toList.length=b.size:=by rw[Array.length_toList];rfl
  simp only[Rows.uptoBulk,Rows.uptoBulkAll];omega
 obtain⟨A,m,c,l,I,s,z,y,T⟩:=S (by omega) P;subst I;have R:m=l.length:=z.1;subst R;have h2:-9223372036854775808<=e/\e<=9223372036854775807:=by simpa [Lit.wf,IntKind.min,IntKind.max,IntKind.signed,IntKind.bits] using w2
 refine⟨.mk t u e a b l,rfl,VRd.of_list (v:=.mk t u e a b l) s z,⟨h2,y⟩,?_⟩;simp only[M_];omega
theorem E5_ {H:Type} {enc:TypeId×XZ->H} {W:QV} {held:Bool} (N:Nat):∀{fuel:Nat} {v:XZ} {d:DataW H} {p:List MemPlace},Rows.uptoBulk d<=N->DataW.trod enc QW W 0 (λ_=>true) held fuel 37 [v]=QJ (d,p) ->
      ∃A n k l,v = QQ A n k/\n<=k/\LRd W (λg=>g<W.heap.size) l A n/\un_ l/\Z_ l<Rows.uptoBulk d:=by
 induction N with
 | zero=>intro fuel v d p F;have:=bulks.one_le d;omega
 | succ N T=>
  intro fuel v d p F h;rcases Go.Deep.open_slice Tryz.underlying37 h with⟨e,y⟩ | ⟨a,b,k,m,n,D,Pl,e,_,O,a0,S,y,B⟩
  ·injection e with e _;subst e;exact⟨QY,0,0,[],rfl,XJ _,LRd.nil 0 rfl,trivial,by simp only[Z_];exact bulks.one_le d⟩
  ·injection e with e _;subst e;have a1:b<=m:=by rw[S];split<;>omega
   injection y with y _;subst y;have hb:=bulks.slice_elems ((List.range b).map D) ((List.range (m-b)).map λj=>D (b+j))
   have J:∀i,i<b->Rows.uptoBulk (D i)<=N:=λi hi=>by
    have:=bulks.part_le (List.mem_map.2 ⟨i,List.mem_range.2 hi,rfl⟩:D i∈(List.range b).map D);omega
   have s:∀i,i<b->∃q:g_×Array XZ,q.2.size=6/\(∀j,j<6->W.cell? (a.add (i*6+j))=q.2[j]?)/\VRd W (λg=>g<W.heap.size) q.1 (.agg q.2)/\ll_ q.1/\M_ q.1<=Rows.uptoBulk (D i):=λi hi=>by
    obtain⟨z,o,P⟩:=B i (by omega);rw[show Tryz.prog.cellsOf 39=6 by kernel_rfl]at o;obtain⟨_,G,c⟩:=World.cells?_some o;obtain⟨x,Y,Z,x3,x4⟩:=tr_ (λF h=>T F h) (Nat.le_succ_of_le (J i hi)) P;exact⟨(x,z.toArray),Y,λj R=>by rw[<-A9_,c j R];simp,Z,x3,x4⟩
   have M:∃q:Nat->g_×Array XZ,∀i,i<b->(q i).2.size=6/\(∀j,j<6->W.cell? (a.add (i*6+j))=(q i).2[j]?)/\VRd W (λg=>g<W.heap.size) (q i).1 (.agg (q i).2)/\ll_ (q i).1/\M_ (q i).1<=Rows.uptoBulk (D i):=by
    classical
    exact⟨λi=>if hi:i<b then Classical.choose (s i hi) else (.mk 0 false 0 ⟨#[]⟩ ⟨#[]⟩ [],#[]),λi hi=>by simp only[dif_pos hi];exact Classical.choose_spec (s i hi)⟩
   obtain⟨q,I⟩:=M;refine⟨QJ a,b,k,(List.range b).map λi=>(q i).1,rfl,O,⟨by simp,λhn=>⟨a,rfl,?_,λi x f=>?_⟩⟩,?_,?_⟩
   ·obtain⟨z,o,_⟩:=B 0 (by omega);rw[show Tryz.prog.cellsOf 39=6 by kernel_rfl]at o;obtain⟨_,G,c⟩:=World.cells?_some o;have h0:=c 0 (by omega);rw[XQ (by omega)]at h0;have:=World.block_lt_of_cell? W _ h0;simpa [Addr.add] using this
   ·rw[List.getElem?_map]at f
    have C:i<b:=by
     rcases Nat.lt_or_ge i b with E | E
     ·exact E
     ·rw[List.getElem?_eq_none (by simpa using E)]at f;cases f
    rw[List.getElem?_range C]at f;injection f with f;subst f;obtain⟨U,V,X,_⟩:=I i C;exact⟨_,U,V,X⟩
   ·have:∀L:List Nat,(∀i,i∈L->i<b)->un_ (L.map λi=>(q i).1):=λL=>by
      induction L with
      | nil=>intro _;trivial
      | cons x r u=>intro t;exact⟨(I x (t x (List.mem_cons_self ..))).2.2.2.1,u λi hi=>t i (List.mem_cons_of_mem _ hi)⟩
    exact this _ λi hi=>List.mem_range.1 hi
   ·have:∀L:List Nat,(∀i,i∈L->i<b)->Z_ (L.map λi=>(q i).1)<=Rows.uptoBulkAll (L.map D):=λL=>by
      induction L with
      | nil=>intro _;simp[Z_]
      | cons x r u=>
       intro t;have h1:=(I x (t x (List.mem_cons_self ..))).2.2.2.2;have h2:=u λi hi=>t i (List.mem_cons_of_mem _ hi);simp only[List.map_cons,Z_,Rows.uptoBulkAll];omega
    have:=this (List.range b) λi hi=>List.mem_range.1 hi;omega
theorem L1_ {H:Type} {enc:TypeId×XZ->H} {P:Program} {w:QV} {b:Nat} {a:Nat->Bool} {held:Bool} {t:TypeId} {n o q:Field} {fuel:Nat} {cs:List XZ} {x:DataW H×List MemPlace} (ht:P.underlying t=QJ (.struct #[n,o,q])) (R:P.cellsOf t=18)
    (S:n.offset=0) (T:o.offset=6) (U:q.offset=12) (M:P.cellsOf n.type=6) (N:P.cellsOf o.type=6) (O:P.cellsOf q.type=6)
    (h:DataW.trod enc P w b a held fuel t cs=QJ x) :
    ∃(r s u v y v5 z A B C c e f g i j l m:XZ) (y0 y1 y2:DataW H×List MemPlace) (k:Nat),cs=[r,s,u,v,y,v5,z,A,B,C,c,e,f,g,i,j,l,m]/\x.1 = .agg [y0.1,y1.1,y2.1]/\DataW.trod enc P w b a held k n.type [r,s,u,v,y,v5]=QJ y0/\DataW.trod enc P w b a held k o.type [z,A,B,C,c,e]=QJ y1/\DataW.trod enc P w b a held k q.type [f,g,i,j,l,m]=QJ y2:=by
 obtain⟨xs,k,V,L,D,J,E⟩:=DataW.trod_struct ht h;rw[R]at D;match xs,J,cs,D with
 | [y0,y1,y2],_,[r,s,u,v,y,v5,z,A,B,C,c,e,f,g,i,j,l,m],_=>
  have F:=E 0 n rfl;have G:=E 1 o rfl;have I:=E 2 q rfl;simp[S,T,U,M,N,O]at F G I;exact⟨r,s,u,v,y,v5,z,A,B,C,c,e,f,g,i,j,l,m,y0,y1,y2,k,rfl,by rw[L];rfl,F,G,I⟩
def yb_ {a : Type} (f:a -> Nat) (l:List a):Nat:=(l.map f).sum
theorem Jd_ {f : Type} [Inhabited f] {H:Type} {enc:TypeId×XZ->H} {W:QV} {held:Bool} {R:bu_ f} {sz N:Nat} {T E:TypeId} {Q:f -> Prop} {t:f -> Nat} (Z:Tryz.prog.underlying T=QJ (.slice E)) (O:Tryz.prog.cellsOf E=sz) (V:0<sz)
    (B:∀{fuel:Nat} {cs:List XZ} {d:DataW H} {p:List MemPlace},Rows.uptoBulk d<=N->DataW.trod enc QW W 0 (λ_=>true) held fuel E cs=QJ (d,p)->∃x:f,cs.toArray.size=sz/\R W (λg=>g<W.heap.size) x cs.toArray/\Q x/\t x<=Rows.uptoBulk d)
    {fuel:Nat} {v:XZ} {d:DataW H} {p:List MemPlace} (hN:Rows.uptoBulk d<=N) (h:DataW.trod enc QW W 0 (λ_=>true) held fuel T [v]=QJ (d,p)) :
    ∃l:List f,SlR sz R W (λg=>g<W.heap.size) l v/\(∀x,x∈l->Q x)/\yb_ t l<Rows.uptoBulk d/\l.length<Rows.uptoBulk d:=by
 rcases Go.Deep.open_slice Z h with⟨k,u⟩ | ⟨a,b,I,m,n,D,Pl,k,_,U,a1,hm,u,z⟩
 ·injection k with k _;subst k;have h1:=bulks.one_le d;exact⟨[],SlR.nil ..,λx c=>(List.not_mem_nil c).elim,by show 0<_;omega,by show 0<_;omega⟩
 ·injection k with k _;subst k;have a2:b<=m:=by rw[hm];split<;>omega
  injection u with u _;subst u;have hb:=bulks.slice_elems ((List.range b).map D) ((List.range (m-b)).map λj=>D (b+j));have a0:=bulks.slice_le ((List.range b).map D) ((List.range (m-b)).map λj=>D (b+j))
  have M:∀i,i<b->Rows.uptoBulk (D i)<=N:=λi hi=>by
   have:=bulks.part_le (List.mem_map.2 ⟨i,List.mem_range.2 hi,rfl⟩:D i∈(List.range b).map D);omega
  have J:∀i,i<b->∃q:f × Array XZ,q.2.size=sz/\(∀j,j<sz->W.cell? (a.add (i*sz+j))=q.2[j]?)/\R W (λg=>g<W.heap.size) q.1 q.2/\Q q.1/\t q.1<=Rows.uptoBulk (D i):=λi hi=>by
   obtain⟨y,s,Y⟩:=z i (by omega);rw[O]at s;obtain⟨_,F,e⟩:=World.cells?_some s;obtain⟨x,x1,x2,x3,x4⟩:=B (M i hi) Y;exact⟨(x,y.toArray),x1,λj hj=>by rw[<-A9_,e j hj];simp,x2,x3,x4⟩
  have S:∃q:Nat -> f × Array XZ,∀i,i<b->(q i).2.size=sz/\(∀j,j<sz->W.cell? (a.add (i*sz+j))=(q i).2[j]?)/\R W (λg=>g<W.heap.size) (q i).1 (q i).2/\Q (q i).1/\t (q i).1<=Rows.uptoBulk (D i):=by
   classical
   exact⟨λi=>if hi:i<b then Classical.choose (J i hi) else (default,#[]),λi hi=>by simp only[dif_pos hi];exact Classical.choose_spec (J i hi)⟩
  obtain⟨q,G⟩:=S;have o:((List.range b).map λi=>(q i).1).length=b:=by simp
  refine⟨(List.range b).map λi=>(q i).1,⟨QJ a,I,by rw[o],by rw[o];exact U,rfl,λhn=>⟨a,rfl,?_,λi x c=>?_⟩⟩,?_,?_,?_⟩
  ·obtain⟨y,s,_⟩:=z 0 (by rw[o]at hn;omega);rw[O]at s;obtain⟨_,F,e⟩:=World.cells?_some s;have h0:=e 0 V;rw[XQ (by omega)]at h0;have:=World.block_lt_of_cell? W _ h0;simpa [Addr.add] using this
  ·rw[List.getElem?_map]at c
   have A:i<b:=by
    rcases Nat.lt_or_ge i b with C | C
    ·exact C
    ·rw[List.getElem?_eq_none (by simpa using C)]at c;cases c
   rw[List.getElem?_range A]at c;injection c with c;subst c;obtain⟨q1,q2,q3,_⟩:=G i A;exact⟨_,q1,q2,q3⟩
  ·intro x c;obtain⟨i,hi,rfl⟩:=List.mem_map.1 c;exact (G i (List.mem_range.1 hi)).2.2.2.1
  ·have:∀L:List Nat,(∀i,i∈L->i<b)->yb_ t (L.map λi=>(q i).1)<=Rows.uptoBulkAll (L.map D):=λL=>by
     induction L with
     | nil=>intro _;simp[yb_]
     | cons x r X=>
      intro P;have h1:=(G x (P x (List.mem_cons_self ..))).2.2.2.2;have h2:=X λi hi=>P i (List.mem_cons_of_mem _ hi);simp only[yb_,List.map_cons,List.sum_cons,Rows.uptoBulkAll]at h2 ⊢;omega
   have:=this (List.range b) λi hi=>List.mem_range.1 hi;omega
  ·rw[o];have hh:((List.range b).map D).length=b:=by simp
   omega
instance:Inhabited g_:=⟨.mk 0 false 0 ⟨#[]⟩ ⟨#[]⟩ []⟩
instance:Inhabited e_:=⟨⟨default,default,default⟩⟩
section
variable {H:Type} {enc:TypeId×XZ->H} {W:QV} {held:Bool} {fuel:Nat} {d:DataW H} {p:List MemPlace}
theorem hs_ {cs:List XZ} (c:Rows.uptoBulk d<=1048576) (h:DataW.trod enc QW W 0 (λ_=>true) held fuel 39 cs=QJ (d,p)) :
    ∃x:g_,OkV x/\∃s,cs.toArray=c_ x s/\VRd W (λg=>g<W.heap.size) x (.agg (c_ x s)):=by
 obtain⟨x,j,e,f,m⟩:=tr_ (N:=1048576) (λc h=>E5_ 1048576 c h) (by omega) h;obtain⟨A,i,a,_,_⟩:=e.inv;injection a with a
 have hi:-9223372036854775808<=x.num/\x.num<=9223372036854775807:=by
  cases x with
  | mk k b n t y l=>
   simp only[ll_]at f;exact f.1
 exact⟨x,⟨by omega,hi.1,hi.2⟩,_,a,by rw[<-a];exact e⟩
theorem Ou_ {cs:List XZ} (M:Rows.uptoBulk d<=1048576) (h:DataW.trod enc QW W 0 (λ_=>true) held fuel 41 cs=QJ (d,p)) :
    ∃x:e_,cs.toArray.size=18/\TrR W (λg=>g<W.heap.size) x cs.toArray/\OkT x/\(λ_:e_=>0) x<=Rows.uptoBulk d:=by
 obtain⟨R,S,T,U,V,v5,X,Y,Z,v9,C,D,E,F,G,I,J,L,a,b,c,k,rfl,e,o,q,r⟩:=L1_ Tryz.underlying41 (by kernel_rfl) rfl rfl rfl (by kernel_rfl) (by kernel_rfl) (by kernel_rfl) h;obtain⟨a,N⟩:=a;obtain⟨b,O⟩:=b;obtain⟨c,P⟩:=c;simp only at e;subst e;have hb:Rows.uptoBulk a+Rows.uptoBulk b+Rows.uptoBulk c<=Rows.uptoBulk (DataW.agg [a,b,c]):=by simp only[Rows.uptoBulk,Rows.uptoBulkAll];omega
 obtain⟨x,s,f,e0,v⟩:=hs_ (by omega) o;obtain⟨y,t,j,m,A⟩:=hs_ (by omega) q;obtain⟨z,u,l,n,B⟩:=hs_ (by omega) r;refine⟨⟨x,y,z⟩,rfl,⟨λi=>if i=0 then f else if i=1 then j else l,?_,λi hi=>?_⟩,⟨s,t,u⟩,Nat.zero_le _⟩
 ·show _=c_ x f++c_ y j++c_ z l;rw[<-e0,<-m,<-n];rfl
 ·rcases (show i=0\/i=1\/i=2 by omega) with rfl | rfl | rfl
  ·exact v
  ·exact A
  ·exact B
theorem As_ {v:XZ} (a:Rows.uptoBulk d<=1048576) (h:DataW.trod enc QW W 0 (λ_=>true) held fuel 22 [v]=QJ (d,p)) :
    ∃l:List e_,SlR 18 TrR W (λg=>g<W.heap.size) l v/\(∀x,x∈l->OkT x)/\yb_ (λ_=>0) l<Rows.uptoBulk d/\l.length<Rows.uptoBulk d:=
 Jd_ (Q:=OkT) Tryz.underlying22 (by kernel_rfl) (by decide) (λa h=>Ou_ a h) a h
end
theorem va_ {H:Type} {enc:TypeId×XZ->H} {W:QV} {f:Nat} {v:XZ} {d:DataW H} {p:List MemPlace} (i:Rows.uptoBulk d<=1048576) (j:Value.okWide QW W .any f 22 v)
    (h:DataW.Trod enc QW W 0 (λ_=>true) true 22 v d p) :
    ∃(A:Option Addr) (n c:Nat) (L:List e_),v = QQ A n c/\(∀t,t∈L->OkT t)/\SRd 18 TrR W (λb=>b<W.heap.size) L A n/\n<=100000000:=by
 obtain⟨a,n,cp,rfl⟩:=okWide_slice Tryz.underlying22 j;obtain⟨fuel,g⟩:=h;obtain⟨L,⟨A,c,e,_,k⟩,l,_,m⟩:=As_ i g;rw[e];exact⟨A,L.length,c,L,rfl,l,k,by omega⟩
end
end Go.Proofs.YtefhfadjajcmkaaGreatDoor
