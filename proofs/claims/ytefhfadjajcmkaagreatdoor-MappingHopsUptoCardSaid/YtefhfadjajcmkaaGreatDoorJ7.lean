/- Triples: what is loaded from a list; the closures of Load; ContainsFunc. -/
import Derived.Test.YtefhfadjajcmkaaGreatDoorJ6
set_option linter.unusedVariables false
set_option linter.unusedSimpArgs false
set_option maxRecDepth 100000
set_option maxHeartbeats 64000000
namespace Go.Proofs.YtefhfadjajcmkaaGreatDoor
open Go.Lib (cell_of_heap)
section
open Go Go.RowKit
structure ov_ (v:h_):Prop where
 kind:v.kind=1\/v.kind=2\/v.kind=3\/v.kind=4\/v.kind=8\/v.kind=9\/v.kind=10
 fit:ag_ v
theorem ow_ (a b:h_) (sa sb:Value) (w:World) (h:ov_ a) (k:ag_ b) (d:F_ w) (g:as_ w) :
    Calls Tryz.prog 114 #[.agg (c_ a sa),.agg (c_ b sb)] w (d4_ a b w):=by
 have c:=q_ (λ(W:World) (l:Below w.heap.size w W)=>uu_ a b sa sb W h.kind h.fit k (f_ d l) (n_ g l));unfold d4_ at c ⊢;obtain⟨v,j⟩:=a_ (G_ a b);rw[j.o]at c ⊢;clear j h k d g;have i:=q_ λn p:Obj=>L_ w n p
 cases a with
 | mk s x q C z u=>
 cases b with
 | mk y t B D A E=>
 unfold c_ at c ⊢;simp only[h_.kind,h_.truth,h_.num,h_.text,h_.extra]at c ⊢;go_enter Tryz.func114,Tryz.ntmps114
 go_wp2_with fail;refine (c.o _ (i.o _ _)).mono ?_;rintro e r ⟨rfl,f⟩;have m:=q_ ((i.o _ _).trans (f.mono (i.o _ _).size));clear f;go_wp2_with fail;go_ret;exact⟨rfl,m.o⟩
def s_ (t:d_) (ss:Nat->Value):Array Value:=c_ t.s (ss 0)++c_ t.p (ss 1)++c_ t.o (ss 2)
theorem mf_ (t:d_) (ss:Nat->Value):(s_ t ss).size=18:=rfl
theorem D_ (t:d_) (ss:Nat->Value) (n:Nat) (b:n<3) (j:Nat) (a:j<6):(s_ t ss)[n*6+j]?=(c_ (t.get n) (ss n))[j]?:=by rcases (show n=0\/n=1\/n=2 by omega) with rfl | rfl | rfl<;>rcases (show j=0\/j=1\/j=2\/j=3\/j=4\/j=5 by omega) with rfl | rfl | rfl | rfl | rfl | rfl<;>kernel_rfl
structure Az_ (c:Array Value) (t:d_) (ss:Nat->Value):Prop where
 o :s_ t ss=c
theorem ah_ (t:d_) (ss:Nat->Value):∃c,Az_ c t ss:=⟨_,⟨rfl⟩⟩
theorem Az_.size {c:Array Value} {t:d_} {ss:Nat->Value} (h:Az_ c t ss):c.size=18:=by rw[<-h.o];rfl
theorem aq_ {w:World} {z:Nat} {c:Array Value} {T:TypeId} {a:Nat×Nat} {t:d_} {ss:Nat->Value} (h:w.heap[z]?=some (.cells c T a)) (e:Az_ c t ss) {n:Nat} (d:n<3):w.rangeAt z (n*6) (c_ (t.get n) (ss n)).toList:=λj v b=>by
 have f:j<6:=(List.getElem?_eq_some_iff.1 b).1;rw[cell_of_row w z (n*6+j) c T a h,<-e.o,D_ t ss n d j f,<-Array.getElem?_toList];exact b
theorem el_ {P:Program} {w:World} {z o:Nat} {v:h_} {s:Value} (b:w.rangeAt z o (c_ v s).toList) (ty:TypeId) (d:TypeDesc) (c:P.underlying ty=some d) (a:d.isRow=true) (hi:(P.info? ty).map (·.size)=some 6) :
    (Instr.loadAt ty (.pointer (some ⟨z,o,none⟩))).run P w = .ok (.agg (c_ v s)) w:=by
 have:=run_loadAt_mid (P:=P) w z o ty (c_ v s).toList d b c a (by rw[Array.length_toList];exact hi);rwa [Array.toArray_toList]at this
structure AlM (w:World) (z:Nat) (c1 c2:Array Value) (wx:World):Prop where
 hb:Below w.heap.size w wx
 h1:wx.heap[z]?=some (.cells c1 99 (0,0))
 h2:wx.heap[z+1]?=some (.cells c2 99 (0,0))
theorem AlM.on {w a w':World} {z:Nat} {c b:Array Value} (h:AlM w z c b a) (hb:Below a.heap.size a w'):AlM w z c b w':=
 ⟨h.hb.trans (hb.mono h.hb.size),(hb.block _ (b_ h.h1)).trans h.h1,(hb.block _ (b_ h.h2)).trans h.h2⟩
theorem AlM.drew {w b:World} {z:Nat} {c a:Array Value} (h:AlM w z c a b):AlM w z c a b.drew:=⟨h.hb.drew,h.h1,h.h2⟩
def alK (w:Way) (a b:d_) (k:Nat):Prop:=∀e,e<k->G_ (a.get (w.get e)) (b.get (w.get e))=0
theorem E3_ {w:Way} {a b:d_} {k:Nat} (d:k<3) (h:alK w a b k) (c:G_ (a.get (w.get k)) (b.get (w.get k))≠0):w_ w a b=G_ (a.get (w.get k)) (b.get (w.get k)):=by
 unfold w_;rcases (show k=0\/k=1\/k=2 by omega) with rfl | rfl | rfl
 ·exact cu_ c
 ·have h0:G_ (a.get w.i) (b.get w.i)=0:=h 0 (by omega);rw[h0,Z_];exact cu_ c
 ·have h0:G_ (a.get w.i) (b.get w.i)=0:=h 0 (by omega);have h1:G_ (a.get w.j) (b.get w.j)=0:=h 1 (by omega);rw[h0,h1,Z_,Z_];rfl
theorem A0_ {w:Way} {a b:d_} (h:alK w a b 3):w_ w a b=0:=E2_.1 λe c=>h e c
theorem ox_ {w:Way} {a b:d_} {k:Nat} (h:alK w a b k) (h0:G_ (a.get (w.get k)) (b.get (w.get k))=0):alK w a b (k+1):=λe d=>by
 by_cases c:e=k
 ·rw[c];exact h0
 ·exact h e (by omega)
theorem b7_ (z n:Nat) (a:n<3) (w:World):(Instr.indexAt 99 (.pointer (some ⟨z,0,none⟩)) (.int .i64 (n:Nat))).run Tryz.prog w = .ok (.pointer (some ⟨z,n*6,none⟩)) w:=by rcases (show n=0\/n=1\/n=2 by omega) with rfl | rfl | rfl<;>kernel_rfl
def xj_ (W:Way) (a b:d_) (w:World) (e:Ending) (w':World):Prop:=e = .returned (.int .i64 (w_ W a b))/\Below w.heap.size w w'
theorem lj_ (W:Way) (hW:W.Ok) (a b:d_) (sa sb:Nat->Value) (w:World) (ka:∀n,ov_ (a.get n)) (fb:∀n,ag_ (b.get n)) (a0:F_ w) (a1:as_ w) :
    Calls Tryz.prog 51 #[.agg (s_ a sa),.agg (s_ b sb),.agg #[.int .i64 (W.i:Nat),.int .i64 (W.j:Nat),.int .i64 (W.k:Nat)]] w (xj_ W a b w):=by
 have F:=q_ (λ(n:Nat) (s:World) (hb:Below w.heap.size w s)=>ow_ (a.get n) (b.get n) (sa n) (sb n) s (ka n) (fb n) (f_ a0 hb) (n_ a1 hb));obtain⟨v,Hv⟩:=a_ (w_ W a b);have HE:=q_ (show ∀w',Below w.heap.size w w'->xj_ W a b w (.returned (.int .i64 v)) w' from λw' hb=>⟨by rw[Hv.o],hb⟩);have C:=q_ (λ(k:Nat) (V:k<3) (h:alK W a b k) (f:G_ (a.get (W.get k)) (b.get (W.get k))≠0)=>(show v=G_ (a.get (W.get k)) (b.get (W.get k)) from Hv.o.symm.trans (E3_ V h f)));have Y:=q_ (λh:alK W a b 3=>(show v=0 from Hv.o.symm.trans (A0_ h)));have E:=q_ (λk:Nat=>hW.lt k);clear Hv ka fb a0 a1 hW;obtain⟨T,P⟩:=ah_ a sa;obtain⟨R,O⟩:=ah_ b sb;rw[P.o,O.o];obtain⟨z,Hz⟩:=a_ w.heap.size;obtain⟨i,Hi⟩:=a_ W.i;obtain⟨j,Hj⟩:=a_ W.j;obtain⟨l,Hl⟩:=a_ W.k;rw[Hi.o,Hj.o,Hl.o];obtain⟨U,N⟩:=a_ (((w.alloc (.cells T 99)).alloc (.cells R 99)).alloc (.cells #[.int .i64 (i:Nat),.int .i64 (j:Nat),.int .i64 (l:Nat)] 101));have t:=q_ (show AlM w z T R U from by rw[<-N.o,<-Hz.o];exact⟨(L_ w _ _).alloc (by simp;omega) _,f2_ w _ _ _,f3_ w _ _ _⟩);have HP:=q_ (show U.heap[z+2]?=some (.cells #[.int .i64 (i:Nat),.int .i64 (j:Nat),.int .i64 (l:Nat)] 101 (0,0)) from by rw[<-N.o,<-Hz.o];exact f4_ w _ _ _);have p0:U.cell? ⟨z+2,0,none⟩=some (.int .i64 (i:Nat)):=cell_of_heap HP.o 0;have p1:U.cell? ⟨z+2,1,none⟩=some (.int .i64 (j:Nat)):=cell_of_heap HP.o 1;have p2:U.cell? ⟨z+2,2,none⟩=some (.int .i64 (l:Nat)):=cell_of_heap HP.o 2;go_enter Tryz.func51,Tryz.ntmps51
 go_upto_region 1 with fail;rw[N.o,Hz.o];clear N;go_wp2_with fail;clear p0 p1 p2 HP;go_loopw [11] (λX wx=>∃k:Nat,k<=3/\X = .int .i64 (k:Nat)/\AlM w z T R wx/\Q_ (alK W a b k)) (λX _=>3-(intOf X).toNat)
 case atStart=>exact⟨0,by omega,rfl,t.o,q_ (λe he=>absurd he (by omega))⟩
 case round=>
  obtain⟨k,V,rfl,hM,A⟩:=hrel;clear t;have t:=q_ hM;clear hM;by_cases M:k=3
  ·subst M;have L:=q_ (Y.o A.o);clear C Y A;go_wp2_with fail;go_ret;have:=HE.o _ t.o.hb;rwa [L.o]at this
  ·rcases (show k=0\/k=1\/k=2 by omega) with rfl | rfl | rfl
   ·clear V M;have D:=q_ (show W.get 0=i from Hi.o);have q:=q_ (show i<3 from by rw[<-D.o];exact E.o 0);have m:=q_ (λ(s:World) (hb:Below w.heap.size w s)=>F.o i s hb);unfold d4_ at m;have f:=q_ (C.o 0 (by omega) A.o);have p:=q_ (λh0=>ox_ (k:=0) A.o h0);rw[D.o]at f p;obtain⟨c,I⟩:=a_ (G_ (a.get i) (b.get i));rw[I.o]at m f p;clear C Y A E F D I;have G:=λW:World=>(show (Instr.index 101 (.agg #[.int .i64 (i:Nat),.int .i64 (j:Nat),.int .i64 (l:Nat)]) (.int .i64 0)).run Tryz.prog W = .ok (.int .i64 (i:Nat)) W from by kernel_rfl);go_upto_region 4 with fail;clear G;refine wp_region_held_drew (S:=λs=>AlM w z T R s) (by kernel_rfl) t.o.drew λd=>?_;refine V_.o ?_;refine v_ 0 14 (.int .i64 (i:Nat)) d λd=>?_;(try simp only[Act.put,aT,aZ,aS]);refine J_ 1 15 (.pointer (some ⟨z,i*6,none⟩)) d (λw g=>?_) λd=>?_
    ·exact k_ (b7_ z i q.o w)
    (try simp only[Act.put,aT,aZ,aS]);refine J_ 2 16 (.agg (c_ (a.get i) (sa i))) d (λw g=>?_) λd=>?_
    ·exact k_ (el_ (aq_ g.h1 P q.o) 39 _ Tryz.underlying39 rfl (by kernel_rfl))
    (try simp only[Act.put,aT,aZ,aS]);refine v_ 3 17 (.int .i64 (i:Nat)) d λd=>?_;(try simp only[Act.put,aT,aZ,aS]);refine J_ 4 18 (.pointer (some ⟨z+1,i*6,none⟩)) d (λw g=>?_) λd=>?_
    ·exact k_ (b7_ (z+1) i q.o w)
    (try simp only[Act.put,aT,aZ,aS]);refine J_ 5 19 (.agg (c_ (b.get i) (sb i))) d (λw g=>?_) λd=>?_
    ·exact k_ (el_ (aq_ g.h2 O q.o) 39 _ Tryz.underlying39 rfl (by kernel_rfl))
    (try simp only[Act.put,aT,aZ,aS]);obtain⟨u1,x⟩:=a_ (c_ (a.get i) (sa i));obtain⟨u2,u⟩:=a_ (c_ (b.get i) (sb i));rw[x.o,u.o]at m ⊢;refine tkC 6 λK J=>?_;change Oper.wp _ ⟨some 20,_,_,_,_,_⟩ _ _ _ _;go_simp;refine (m.o _ t.o.hb.drew).mono ?_;rintro e w2 ⟨rfl,y⟩;have B:=q_ (t.o.drew.on y);clear y m;dsimp only;refine J.out _ _ B.o λd=>?_;clear J K;(try simp only[Act.put,aT,aZ,aS]);refine v_ 7 9 (.int .i64 c) d λd=>?_;(try simp only[Act.put,aT,aZ,aS]);refine⟨wpAnyH_done (by kernel_rfl) ?_ _⟩;clear d t x u q;by_cases r:c=0
    ·have Z:(c != 0)=false:=by simpa using r
     have hz:=q_ (p.o r);clear r f p;go_wp2_with fail;go_roundw
     case rel=>exact⟨1,by omega,(by first | rfl | trivial),B.o,hz⟩
     case measure=>simp[intOf]
    ·have Z:(c != 0)=true:=bne_iff_ne.2 r;have L:=q_ (f.o r);clear r f p;go_wp2_with fail;go_ret;have:=HE.o _ B.o.hb;rwa [L.o]at this
   ·clear V M;have D:=q_ (show W.get 1=j from Hj.o);have q:=q_ (show j<3 from by rw[<-D.o];exact E.o 1);have m:=q_ (λ(s:World) (hb:Below w.heap.size w s)=>F.o j s hb);unfold d4_ at m;have f:=q_ (C.o 1 (by omega) A.o);have p:=q_ (λh0=>ox_ (k:=1) A.o h0);rw[D.o]at f p;obtain⟨c,I⟩:=a_ (G_ (a.get j) (b.get j));rw[I.o]at m f p;clear C Y A E F D I;have G:=λW:World=>(show (Instr.index 101 (.agg #[.int .i64 (i:Nat),.int .i64 (j:Nat),.int .i64 (l:Nat)]) (.int .i64 1)).run Tryz.prog W = .ok (.int .i64 (j:Nat)) W from by kernel_rfl);go_upto_region 4 with fail;clear G;refine wp_region_held_drew (S:=λs=>AlM w z T R s) (by kernel_rfl) t.o.drew λd=>?_;refine V_.o ?_;refine v_ 0 14 (.int .i64 (j:Nat)) d λd=>?_;(try simp only[Act.put,aT,aZ,aS]);refine J_ 1 15 (.pointer (some ⟨z,j*6,none⟩)) d (λw g=>?_) λd=>?_
    ·exact k_ (b7_ z j q.o w)
    (try simp only[Act.put,aT,aZ,aS]);refine J_ 2 16 (.agg (c_ (a.get j) (sa j))) d (λw g=>?_) λd=>?_
    ·exact k_ (el_ (aq_ g.h1 P q.o) 39 _ Tryz.underlying39 rfl (by kernel_rfl))
    (try simp only[Act.put,aT,aZ,aS]);refine v_ 3 17 (.int .i64 (j:Nat)) d λd=>?_;(try simp only[Act.put,aT,aZ,aS]);refine J_ 4 18 (.pointer (some ⟨z+1,j*6,none⟩)) d (λw g=>?_) λd=>?_
    ·exact k_ (b7_ (z+1) j q.o w)
    (try simp only[Act.put,aT,aZ,aS]);refine J_ 5 19 (.agg (c_ (b.get j) (sb j))) d (λw g=>?_) λd=>?_
    ·exact k_ (el_ (aq_ g.h2 O q.o) 39 _ Tryz.underlying39 rfl (by kernel_rfl))
    (try simp only[Act.put,aT,aZ,aS]);obtain⟨u1,x⟩:=a_ (c_ (a.get j) (sa j));obtain⟨u2,u⟩:=a_ (c_ (b.get j) (sb j));rw[x.o,u.o]at m ⊢;refine tkC 6 λK J=>?_;change Oper.wp _ ⟨some 20,_,_,_,_,_⟩ _ _ _ _;go_simp;refine (m.o _ t.o.hb.drew).mono ?_;rintro e w2 ⟨rfl,y⟩;have B:=q_ (t.o.drew.on y);clear y m;dsimp only;refine J.out _ _ B.o λd=>?_;clear J K;(try simp only[Act.put,aT,aZ,aS]);refine v_ 7 9 (.int .i64 c) d λd=>?_;(try simp only[Act.put,aT,aZ,aS]);refine⟨wpAnyH_done (by kernel_rfl) ?_ _⟩;clear d t x u q;by_cases r:c=0
    ·have Z:(c != 0)=false:=by simpa using r
     have hz:=q_ (p.o r);clear r f p;go_wp2_with fail;go_roundw
     case rel=>exact⟨2,by omega,(by first | rfl | trivial),B.o,hz⟩
     case measure=>simp[intOf]
    ·have Z:(c != 0)=true:=bne_iff_ne.2 r;have L:=q_ (f.o r);clear r f p;go_wp2_with fail;go_ret;have:=HE.o _ B.o.hb;rwa [L.o]at this
   ·clear V M;have D:=q_ (show W.get 2=l from Hl.o);have q:=q_ (show l<3 from by rw[<-D.o];exact E.o 2);have m:=q_ (λ(s:World) (hb:Below w.heap.size w s)=>F.o l s hb);unfold d4_ at m;have f:=q_ (C.o 2 (by omega) A.o);have p:=q_ (λh0=>ox_ (k:=2) A.o h0);rw[D.o]at f p;obtain⟨c,I⟩:=a_ (G_ (a.get l) (b.get l));rw[I.o]at m f p;clear C Y A E F D I;have G:=λW:World=>(show (Instr.index 101 (.agg #[.int .i64 (i:Nat),.int .i64 (j:Nat),.int .i64 (l:Nat)]) (.int .i64 2)).run Tryz.prog W = .ok (.int .i64 (l:Nat)) W from by kernel_rfl);go_upto_region 4 with fail;clear G;refine wp_region_held_drew (S:=λs=>AlM w z T R s) (by kernel_rfl) t.o.drew λd=>?_;refine V_.o ?_;refine v_ 0 14 (.int .i64 (l:Nat)) d λd=>?_;(try simp only[Act.put,aT,aZ,aS]);refine J_ 1 15 (.pointer (some ⟨z,l*6,none⟩)) d (λw g=>?_) λd=>?_
    ·exact k_ (b7_ z l q.o w)
    (try simp only[Act.put,aT,aZ,aS]);refine J_ 2 16 (.agg (c_ (a.get l) (sa l))) d (λw g=>?_) λd=>?_
    ·exact k_ (el_ (aq_ g.h1 P q.o) 39 _ Tryz.underlying39 rfl (by kernel_rfl))
    (try simp only[Act.put,aT,aZ,aS]);refine v_ 3 17 (.int .i64 (l:Nat)) d λd=>?_;(try simp only[Act.put,aT,aZ,aS]);refine J_ 4 18 (.pointer (some ⟨z+1,l*6,none⟩)) d (λw g=>?_) λd=>?_
    ·exact k_ (b7_ (z+1) l q.o w)
    (try simp only[Act.put,aT,aZ,aS]);refine J_ 5 19 (.agg (c_ (b.get l) (sb l))) d (λw g=>?_) λd=>?_
    ·exact k_ (el_ (aq_ g.h2 O q.o) 39 _ Tryz.underlying39 rfl (by kernel_rfl))
    (try simp only[Act.put,aT,aZ,aS]);obtain⟨u1,x⟩:=a_ (c_ (a.get l) (sa l));obtain⟨u2,u⟩:=a_ (c_ (b.get l) (sb l));rw[x.o,u.o]at m ⊢;refine tkC 6 λK J=>?_;change Oper.wp _ ⟨some 20,_,_,_,_,_⟩ _ _ _ _;go_simp;refine (m.o _ t.o.hb.drew).mono ?_;rintro e w2 ⟨rfl,y⟩;have B:=q_ (t.o.drew.on y);clear y m;dsimp only;refine J.out _ _ B.o λd=>?_;clear J K;(try simp only[Act.put,aT,aZ,aS]);refine v_ 7 9 (.int .i64 c) d λd=>?_;(try simp only[Act.put,aT,aZ,aS]);refine⟨wpAnyH_done (by kernel_rfl) ?_ _⟩;clear d t x u q;by_cases r:c=0
    ·have Z:(c != 0)=false:=by simpa using r
     have hz:=q_ (p.o r);clear r f p;go_wp2_with fail;go_roundw
     case rel=>exact⟨3,by omega,(by first | rfl | trivial),B.o,hz⟩
     case measure=>simp[intOf]
    ·have Z:(c != 0)=true:=bne_iff_ne.2 r;have L:=q_ (f.o r);clear r f p;go_wp2_with fail;go_ret;have:=HE.o _ B.o.hb;rwa [L.o]at this
end
section
open Go Go.RowKit Go.Maps
def keyV (v:h_):ByteArray:=t0_ (c9_ v)
theorem A1_ {v:h_} (a:T_ v<=200000):(keyV v).size<=40000000:=by
 have:=mb_ v;have e:(keyV v).size=(c9_ v).length:=by simp[keyV,t0_,ByteArray.size]
 omega
theorem Ik_ {v:h_} (a:T_ v<=200000):VS (keyV v):=by have:=A1_ a;unfold VS maxLen;omega
theorem E4_ {v u:h_} (a:I_ v 0=true) (b:I_ u 0=true) (h1:jv_ v) (h2:jv_ u) (h:keyV v=keyV u):v=u:=by refine Kl_ a b h1 h2 ?_;have:=congrArg (λs:ByteArray=>s.data.toList) h;exact this
theorem lk_ {v:h_} (h:X_ v):T_ v<=40000:=by
 have a:=h.1
 have key:∀(k:Int) (b:Bool) (n:Int) (t x:ByteArray),v = .mk k b n t x []->t.size<=1048576->x.size<=1048576->T_ v<=40000:=λk b n t x e h1 h2=>by
  rw[e];simp only[T_,ab_];omega
 have h0:(⟨#[]⟩:ByteArray).size<=1048576:=by decide
 rcases bs_ h with⟨_,e⟩ | ⟨_,e⟩ | ⟨_,_,e⟩ | ⟨c,e⟩
 ·exact key _ _ _ _ _ e h0 h0
 ·exact key _ _ _ _ _ e h0 h0
 ·rw[e]at a;exact key _ _ _ _ _ e (sn_ a).2.2.2.2 h0
 ·generalize v.kind=k at c e;rw[e]at a;rcases c with rfl | rfl | rfl | rfl
  ·have:=so_ a;exact key _ _ _ _ _ e this.2.2.2.2 (by rw[this.2.2.1];exact h0)
  ·have:=k7_ a;exact key _ _ _ _ _ e this.2.2.2.2 (by rw[this.2.2.1];exact h0)
  ·have:=oe_ a;exact key _ _ _ _ _ e this.2.2.2.2 (by rw[this.2.2.1];exact h0)
  ·have:=na_ a;exact key _ _ _ _ _ e this.2.2.2.1 this.2.2.2.2
theorem E5_ {v:h_} (h:X_ v):v.list=[]:=by rcases bs_ h with⟨_,e⟩ | ⟨_,e⟩ | ⟨_,_,e⟩ | ⟨_,e⟩<;>(rw[e];rfl)
theorem ux_ {v:h_} (h:X_ v):jv_ v:=by
 have a:=E5_ h;obtain⟨_,_,h1,h2⟩:=h
 cases v with
 | mk k b n t x l=>
  change l=[]at a;subst a;unfold jv_;refine⟨⟨h1,h2⟩,?_⟩;unfold sm_;trivial
theorem uy_ {v u:h_} (a:X_ v) (b:X_ u) (h:keyV v=keyV u):v=u:=E4_ a.1 b.1 (ux_ a) (ux_ b) h
theorem nb_ {v:h_} (h:X_ v):VS (keyV v):=Ik_ (Nat.le_trans (lk_ h) (by decide))
theorem j7_ {D:List h_} (c:∀x,x∈D->X_ x) {v:h_} (b:X_ v):keyV v∈D.map keyV↔v∈D:=by
 rw[List.mem_map];constructor
 ·rintro⟨u,a,e⟩;rw[<-uy_ (c u a) b e];exact a
 ·exact λh=>⟨v,h,rfl⟩
open Classical in
theorem mkey_place {D:List h_} (c:∀x,x∈D->X_ x) {v:h_} (g:X_ v):((place (D.map keyV) (keyV v):Nat):Int)=bf_ D v:=by
 unfold bf_;congr 1
 induction D with
 | nil=>rfl
 | cons a r b=>
  have b:=b λx d=>c x (List.mem_cons_of_mem _ d);rw[List.map_cons,i7_,i7_,b];by_cases e:a=v
  ·subst e;rw[if_pos rfl,if_pos rfl]
  ·have f:keyV a≠keyV v:=λh=>e (uy_ (c a List.mem_cons_self) g h);rw[if_neg f,if_neg e]
theorem jc_ (w:World) (F:Nat->Prop) {v:h_} (h:v.list=[]) (A:Option Addr) (a:Nat):VRd w F v (.agg (c_ v (.slice A 0 a))):=by have:=VRd.mk (w:=w) (F:=F) v A a ⟨0,0,none⟩ (λ_=>#[]) (by rw[h];exact Nat.zero_le _) (by rw[h];intro h;cases h) (by rw[h];intro i h;cases h) (by rw[h];intro i x h;simp at h);rw[h]at this;exact this
theorem b5_:(Tryz.prog.info? 39).map (·.size)=some 6:=by kernel_rfl
def oy_ (v:h_) (w:World) (e:Ending) (w':World):Prop:=e = .returned (.string (keyV v))/\Below w.heap.size w w'
theorem oz_ (v:h_) (j:X_ v) (A:Option Addr) (d:Nat) (w:World) (B:F_ w):Calls Tryz.prog 70 #[.agg (c_ v (.slice A 0 d))] w (oy_ v w):=by
 have a:=q_ (λ(W:World) (hb:Below w.heap.size w W)=>wy_ v (Nat.le_trans (lk_ j) (by decide)) (λ_=>False) (.agg (c_ v (.slice A 0 d))) W (λg h=>h.elim) (jc_ W _ (E5_ j) A d) (f_ B hb));unfold Ds_ at a;unfold oy_;rw[j.1]at a;obtain⟨C,m⟩:=a_ (keyV v);have l:∀(W:World) (x:Nat) (p:Value),W.ownsRow x 5 1 p (c9_ v).length (Lib.byteCells (c9_ v))->(convert 197 9 p).run Tryz.prog W = .ok (.string C) W:=λW x p D=>by rw[<-m.o];exact C6_ D
 have k:=q_ l;obtain⟨G,y⟩:=a_ (c9_ v);rw[y.o]at k a;rw[m.o];obtain⟨c,t⟩:=H_ v (.slice A 0 d);rw[t.o]at a ⊢;clear l j;obtain⟨z,u⟩:=a_ w.heap.size;obtain⟨n,b⟩:=a_ (w.alloc (.cells c 39));have i:=q_ (show Below w.heap.size w n from by rw[<-b.o];exact (Below.refl _ _).alloc (Nat.le_refl _) _);have s:=q_ (show n.heap[z]?=some (.cells c 39 (0,0)) from by rw[<-b.o,<-u.o];exact heap_alloc_new w _);have E:=q_ (show (Tryz.prog.info? 39).map (·.size)=some c.size from b5_.trans (congrArg some t.size.symm));go_enter Tryz.func70,Tryz.ntmps70
 go_upto_region 1 with fail;rw[b.o,u.o];clear b;go_wp2_with ((with_reducible refine e_ (some 6) ?_);refine A_ rfl 39 _ rfl z 0 rfl c _ (p_ s.o) Tryz.underlying39 rfl E.o ?_)
 refine (a.o n i.o).mono ?_;rintro e w2 ⟨hb,r,rfl,f⟩;have q:=q_ (i.o.trans (hb.mono i.o.size));have F:=k.o w2 _ r f;clear hb f;go_wp2_with fail;go_ret;exact⟨rfl,q.o⟩
end
section
open Go Go.RowKit
theorem Ly_ {w:World} {F:Nat->Prop} {l:List Int} {A:Option Addr} {n:Nat} (h:SRd 1 IxR w F l A n) {i:Nat} {x:Int} (f:l[i]?=some x) :
    ∃ad,A=some ad/\F ad.block/\w.cell? (ad.add i)=some (.int .i64 x):=by
 obtain⟨ad,c,e,g,_,d,b⟩:=h.at_ f;have a:=d 0 (by omega);rw[b]at a;exact⟨ad,e,g,by simpa using a⟩
def inI (l:List Int) (x:Int):Bool:=decide (x∈l)
def J8_ (b:Bool) (w:World) (e:Ending) (w':World):Prop:=e = .returned (.bool b)/\w'=w
def Mi_ (b:Bool) (w:World) (e:Ending) (w':World):Prop:=∃r:Int,e = .returned (.int .i64 r)/\decide (0<=r)=b/\w'=w
theorem E6_ (l:List Int) (x:Int) (F:Nat->Prop) (A:Option Addr) (n c:Nat) (w:World) (h:SRd 1 IxR w F l A n) (E:n<=1000000000) :
    Calls Tryz.prog 118 #[.slice A n c,.int .i64 x] w (Mi_ (inI l x) w):=by
 have u:=q_ h;have q:=q_ h.1;clear h;obtain⟨r,e⟩:=a_ (inI l x);rw[e.o];go_enter Tryz.func118,Tryz.ntmps118
 go_wp2_with fail;go_loopw [8] (λg v=>∃k:Nat,k<=n/\g = .int .i64 (k:Nat)/\Q_ (v=w/\x∉l.take k)) (λg _=>n-(intOf g).toNat)
 case atStart=>exact⟨0,by omega,rfl,q_ ⟨rfl,by simp⟩⟩
 case round=>
  obtain⟨k,C,rfl,b⟩:=hrel;by_cases s:k<n
  ·obtain⟨y,i⟩:∃y,l[k]?=some y:=⟨l[k]'(by rw[<-q.o];exact s),List.getElem?_eq_getElem _⟩;have t:=q_ i;obtain⟨ad,rfl,_,I⟩:=Ly_ (u.o.keep IxR.good (w':=wr) (λp _=>by rw[b.o.1])) i;clear i;have G:(0:Int)<=k:=by omega
   have D:(k:Int)<n:=by omega
   have B:IntKind.i64.wrap ((k:Int)+1)=(k:Int)+1:=IntWalk.i64_in _ (by omega);by_cases a:x=y
   ·subst a;have z:(x==x)=true:=beq_self_eq_true _;have f:=q_ (show r=true from by rw[<-e.o];exact decide_eq_true (List.mem_of_getElem? t.o));go_wp2_with fail;go_ret;exact⟨(k:Int),rfl,by rw[f.o];simp,b.o.1⟩
   ·have z:(x==y)=false:=beq_eq_false_iff_ne.2 a;have m:=q_ a;clear a;go_wp2_with fail;go_roundw
    case rel=>
     refine⟨k+1,by omega,by go_num,q_ ⟨b.o.1,λd=>?_⟩⟩;rw[g_ t.o]at d;rcases List.mem_append.1 d with d | d
     ·exact b.o.2 d
     ·exact m.o (List.mem_singleton.1 d)
    case measure=>simp[intOf];omega
  ·have j:n=k:=by omega
   subst j;have f:=q_ (show r=false from by rw[<-e.o];refine decide_eq_false ?_;have h:=b.o.2;rw[List.take_of_length_le (by rw[<-q.o];exact Nat.le_refl _)]at h;exact h);go_wp2_with fail;go_ret;exact⟨-1,rfl,by rw[f.o];simp,b.o.1⟩
theorem qd_ (l:List Int) (x:Int) (F:Nat->Prop) (A:Option Addr) (n c:Nat) (w:World) (h:SRd 1 IxR w F l A n) (d:n<=1000000000) :
    Calls Tryz.prog 58 #[.slice A n c,.int .i64 x] w (J8_ (inI l x) w):=by
 have a:=q_ (E6_ l x F A n c w h d);clear h;obtain⟨r,b⟩:=a_ (inI l x);rw[b.o]at a ⊢;clear b;go_enter Tryz.func58,Tryz.ntmps58
 go_wp2_with fail;refine a.o.mono ?_;rintro e w' ⟨q,rfl,f,rfl⟩;go_wp2_with fail;go_ret;exact⟨by rw[<-f];rfl,rfl⟩
def TrR:bj_ d_:=λw F t c=>∃ss:Nat->Value,c=s_ t ss/\∀n,n<3->VRd w F (t.get n) (.agg (c_ (t.get n) (ss n)))
theorem TrR.good:TrR.Good:=⟨fun⟨ss,e,h⟩ hk=>⟨ss,e,λn a=>(h n a).keep hk⟩,fun⟨ss,e,h⟩ hF=>⟨ss,e,λn a=>(h n a).mono hF⟩⟩
structure OkV (v:h_):Prop where
 size:T_ v<=100000000
 n0:-9223372036854775808<=v.num
 n1:v.num<=9223372036854775807
theorem OkV.fit {v:h_} (h:OkV v):ag_ v:=⟨h.n0,h.n1,by
 have:=h.size
 cases v with
 | mk k b n t x l=>
 simp only[T_]at this;show t.size<=_;omega⟩
def OkT (t:d_):Prop:=OkV t.s/\OkV t.p/\OkV t.o
theorem OkT.get {t:d_} (h:OkT t) (n:Nat):OkV (t.get n):=by
 unfold d_.get;split
 ·exact h.1
 ·split
  ·exact h.2.1
  ·exact h.2.2
theorem c5_ {t:d_} (h:dj_ t=true) (a:OkT t):bn_ t:=by unfold dj_ at h;simp only[Bool.and_eq_true,decide_eq_true_eq]at h;exact⟨⟨h.1,by omega,a.1.n0,a.1.n1⟩,⟨h.2.1,by omega,a.2.1.n0,a.2.1.n1⟩,⟨h.2.2.1,by omega,a.2.2.n0,a.2.2.n1⟩⟩
theorem cg_ {P:Program} {f:Func} {a:Tmp} {T k:TypeId} {w:World} (h:f.results=#[.cell a T]) {b:Array Value} {g:Nat} (ht:b.getD a undef = .pointer (some ⟨g,0,none⟩)) {c:Array Value} (i:w.heap[g]?=some (.cells c k (0,0)))
    (d:TypeDesc) (l:P.underlying T=some d) (j:d.isRow=true) (hi:(P.info? T).map (·.size)=some c.size):(results f b).run P w = .ok (.agg c) w:=by
 have:=run_loadVar_mid (P:=P) w g 0 T c.toList d (p_ i) l j (by rw[Array.length_toList];exact hi);rw[Array.toArray_toList]at this;have e:b[a]?.getD undef = .pointer (some ⟨g,0,none⟩):=by rw[<-ht];simp
 simp[results,h,e,asAddr,this]
def ll_:List Int:=[8,9,10,4,1,2,3]
theorem uz_ (w:World):SRd 1 IxR (w.alloc (.cells #[.int .i64 8,.int .i64 9,.int .i64 10,.int .i64 4,.int .i64 1,.int .i64 2,.int .i64 3] 3)) (λb=>b=w.heap.size) ll_ (some ⟨w.heap.size,0,none⟩) 7:=by
 refine⟨rfl,λ_=>⟨_,rfl,rfl,λi x a=>⟨#[.int .i64 x],rfl,λj e=>?_,rfl⟩⟩⟩;have c:j=0:=by omega
 subst c;have hi:=(List.getElem?_eq_some_iff.1 a).1;have d:i<7:=hi;rcases (show i=0\/i=1\/i=2\/i=3\/i=4\/i=5\/i=6 by omega) with rfl | rfl | rfl | rfl | rfl | rfl | rfl
 all_goals (injection a with a;subst a;exact cell_of_heap (heap_alloc_new w _) _)
theorem Il_ (s p o:h_):dj_ ⟨s,p,o⟩=(I_ s 0&&(I_ p 0&&(I_ o 0&&(decide (p.kind=8)&&(decide (s.kind=8\/s.kind=9)&&inI ll_ o.kind))))):=by unfold dj_ inI ll_;simp only[List.mem_cons,List.not_mem_nil,or_false]
theorem o0_ (o:Int) (f:Bool) (e:Int) (h d:ByteArray) (p:List h_) (g:Int) (c:Bool) (b:Int) (l m:ByteArray) (q:List h_) (k:Int) (j:Bool) (a:Int) (i n:ByteArray) (r:List h_) (ss:Nat->Value):s_ ⟨.mk o f e h d p,.mk g c b l m q,.mk k j a i n r⟩ ss=#[.int .i64 o,.bool f,.int .i64 e,.string h,.string d,ss 0,.int .i64 g,.bool c,.int .i64 b,.string l,.string m,ss 1,.int .i64 k,.bool j,.int .i64 a,.string i,.string n,ss 2]:=by kernel_rfl
def y7_ (c:Array Value) (w:World) (e:Ending) (w':World):Prop:=e = .returned (.agg c)/\Below w.heap.size w w'
theorem u0_ (t:d_) (ss:Nat->Value) (m:∀n,n<3->∃A l c,ss n = .slice A l c) (w:World):Calls Tryz.prog 47 #[.agg (s_ t ss)] w (y7_ (s_ t ss) w):=by
 obtain⟨T,i,O,h0⟩:=m 0 (by omega);obtain⟨M,f,S,h1⟩:=m 1 (by omega);obtain⟨G,e,q,h2⟩:=m 2 (by omega)
 cases t with
 | mk s p o=>
 cases s with
 | mk N B J C P l0=>
 cases p with
 | mk u y r L E l1=>
 cases o with
 | mk D x I R F l2=>
 rw[o0_,h0,h1,h2];clear h0 h1 h2 m;have d:=q_ (show (Tryz.prog.info? 99).map (·.size)=some 18 from by kernel_rfl);have U:=q_ (show (#[.int .i64 N,.bool B,.int .i64 J,.string C,.string P,(.slice T i O),.int .i64 u,.bool y,.int .i64 r,.string L,.string E,(.slice M f S),.int .i64 D,.bool x,.int .i64 I,.string R,.string F,(.slice G e q)]:Array Value).all (·.oneCell')=true from by kernel_rfl);obtain⟨z,V⟩:=a_ w.heap.size;obtain⟨a,j⟩:=a_ ((w.alloc (.cells #[.int .i64 N,.bool B,.int .i64 J,.string C,.string P,(.slice T i O),.int .i64 u,.bool y,.int .i64 r,.string L,.string E,(.slice M f S),.int .i64 D,.bool x,.int .i64 I,.string R,.string F,(.slice G e q)] 41)).alloc (.cells #[.int .i64 0,.bool false,.int .i64 0,.string ⟨#[]⟩,.string ⟨#[]⟩,.slice none 0 0,.int .i64 0,.bool false,.int .i64 0,.string ⟨#[]⟩,.string ⟨#[]⟩,.slice none 0 0,.int .i64 0,.bool false,.int .i64 0,.string ⟨#[]⟩,.string ⟨#[]⟩,.slice none 0 0] 99));have Y:=q_ (show Below w.heap.size w a from by rw[<-j.o];exact L_ w _ _);have b:=q_ (show a.heap[z]?=some (.cells #[.int .i64 N,.bool B,.int .i64 J,.string C,.string P,(.slice T i O),.int .i64 u,.bool y,.int .i64 r,.string L,.string E,(.slice M f S),.int .i64 D,.bool x,.int .i64 I,.string R,.string F,(.slice G e q)] 41 (0,0)) from by rw[<-j.o,<-V.o];exact heap_alloc2_old w _ _);have HY:=q_ (show a.heap[z+1]?=some (.cells #[.int .i64 0,.bool false,.int .i64 0,.string ⟨#[]⟩,.string ⟨#[]⟩,.slice none 0 0,.int .i64 0,.bool false,.int .i64 0,.string ⟨#[]⟩,.string ⟨#[]⟩,.slice none 0 0,.int .i64 0,.bool false,.int .i64 0,.string ⟨#[]⟩,.string ⟨#[]⟩,.slice none 0 0] 99 (0,0)) from by rw[<-j.o,<-V.o];exact heap_alloc2_new w _ _);go_enter Tryz.func47,Tryz.ntmps47
 go_upto_region 1 with fail;rw[j.o,V.o];clear j;have p0:=(show a.cell? ⟨z,0,none⟩=some (.int .i64 N) from cell_of_heap b.o 0);have p1:=(show a.cell? ⟨z,1,none⟩=some (.bool B) from cell_of_heap b.o 1);have p2:=(show a.cell? ⟨z,2,none⟩=some (.int .i64 J) from cell_of_heap b.o 2);have p3:=(show a.cell? ⟨z,3,none⟩=some (.string C) from cell_of_heap b.o 3);have p4:=(show a.cell? ⟨z,4,none⟩=some (.string P) from cell_of_heap b.o 4);have p5:=(show a.cell? ⟨z,5,none⟩=some (.slice T i O) from cell_of_heap b.o 5);have p6:=(show a.cell? ⟨z,6,none⟩=some (.int .i64 u) from cell_of_heap b.o 6);have p7:=(show a.cell? ⟨z,7,none⟩=some (.bool y) from cell_of_heap b.o 7);have p8:=(show a.cell? ⟨z,8,none⟩=some (.int .i64 r) from cell_of_heap b.o 8);have p9:=(show a.cell? ⟨z,9,none⟩=some (.string L) from cell_of_heap b.o 9);have a1:=(show a.cell? ⟨z,10,none⟩=some (.string E) from cell_of_heap b.o 10);have a3:=(show a.cell? ⟨z,11,none⟩=some (.slice M f S) from cell_of_heap b.o 11);have a4:=(show a.cell? ⟨z,12,none⟩=some (.int .i64 D) from cell_of_heap b.o 12);have a0:=(show a.cell? ⟨z,13,none⟩=some (.bool x) from cell_of_heap b.o 13);have a7:=(show a.cell? ⟨z,14,none⟩=some (.int .i64 I) from cell_of_heap b.o 14);have a2:=(show a.cell? ⟨z,15,none⟩=some (.string R) from cell_of_heap b.o 15);have a6:=(show a.cell? ⟨z,16,none⟩=some (.string F) from cell_of_heap b.o 16);have a5:=(show a.cell? ⟨z,17,none⟩=some (.slice G e q) from cell_of_heap b.o 17);go_wp2_with ((with_reducible refine z_ 2 ?_);refine r_ rfl 99 _ _ rfl (z+1) (#[.int .i64 0,.bool false,.int .i64 0,.string ⟨#[]⟩,.string ⟨#[]⟩,.slice none 0 0,.int .i64 0,.bool false,.int .i64 0,.string ⟨#[]⟩,.string ⟨#[]⟩,.slice none 0 0,.int .i64 0,.bool false,.int .i64 0,.string ⟨#[]⟩,.string ⟨#[]⟩,.slice none 0 0]) (#[.int .i64 N,.bool B,.int .i64 J,.string C,.string P,(.slice T i O),.int .i64 u,.bool y,.int .i64 r,.string L,.string E,(.slice M f S),.int .i64 D,.bool x,.int .i64 I,.string R,.string F,(.slice G e q)]) 99 rfl rfl HY.o rfl d.o U.o ?_;intro w2 W h)
 have X:=q_ (show Below w.heap.size w w2 from Y.o.trans ⟨h.os,h.tape,h.output,h.size,λk hk=>h.block k (Nat.lt_of_lt_of_le hk Y.o.size) (by rw[<-V.o];omega)⟩);have Z:=q_ W;clear W h;go_wp2_with fail;refine bodyPost_ret (v:=.agg #[.int .i64 N,.bool B,.int .i64 J,.string C,.string P,(.slice T i O),.int .i64 u,.bool y,.int .i64 r,.string L,.string E,(.slice M f S),.int .i64 D,.bool x,.int .i64 I,.string R,.string F,(.slice G e q)]) (cg_ Tryz.results47 (g:=z+1) rfl Z.o _ Tryz.underlying99 rfl d.o) rfl ⟨rfl,X.o⟩
theorem xk_ (t:d_) (ok:OkT t) (F:Nat->Prop) (ss:Nat->Value) (w:World) (R:∀g,F g->g<w.heap.size) (hv:∀n,n<3->VRd w F (t.get n) (.agg (c_ (t.get n) (ss n)))) (hg:F_ w) :
    Calls Tryz.prog 15 #[.agg (s_ t ss)] w (u_ (dj_ t) w):=by
 have x:=q_ (λ(W:World) (hb:Below w.heap.size w W)=>do_ t.s (Nat.le_trans ok.1.size (by decide)) F (.agg (c_ t.s (ss 0))) W (λg h=>Nat.lt_of_lt_of_le (R g h) hb.size) ((hv 0 (by omega)).under hb R) (f_ hg hb));have v:=q_ (λ(W:World) (hb:Below w.heap.size w W)=>do_ t.p (Nat.le_trans ok.2.1.size (by decide)) F (.agg (c_ t.p (ss 1))) W (λg h=>Nat.lt_of_lt_of_le (R g h) hb.size) ((hv 1 (by omega)).under hb R) (f_ hg hb));have y:=q_ (λ(W:World) (hb:Below w.heap.size w W)=>do_ t.o (Nat.le_trans ok.2.2.size (by decide)) F (.agg (c_ t.o (ss 2))) W (λg h=>Nat.lt_of_lt_of_le (R g h) hb.size) ((hv 2 (by omega)).under hb R) (f_ hg hb));clear ok hv R hg;unfold u_ at x v y ⊢
 cases t with
 | mk s p o=>
 rw[Il_];have D8:=q_ (And.intro (λh:p.kind=8=>(decide_eq_true h:decide (p.kind=8)=true)) (λh:p.kind≠8=>(decide_eq_false h:decide (p.kind=8)=false)));have S:=q_ (And.intro (λh:s.kind=8\/s.kind=9=>(decide_eq_true h:decide (s.kind=8\/s.kind=9)=true)) (λh:¬(s.kind=8\/s.kind=9)=>(decide_eq_false h:decide (s.kind=8\/s.kind=9)=false)));have u:=q_ (λ(W:World) (g:Nat) (h:SRd 1 IxR W (λb=>b=g) ll_ (some ⟨g,0,none⟩) 7)=>qd_ ll_ o.kind (λb=>b=g) (some ⟨g,0,none⟩) 7 7 W h (by omega));unfold J8_ at u;obtain⟨d8,a1⟩:=a_ (decide (p.kind=8));obtain⟨d9,a2⟩:=a_ (decide (s.kind=8\/s.kind=9));obtain⟨iv,a3⟩:=a_ (inI ll_ o.kind);rw[a1.o]at D8 ⊢;rw[a2.o]at S ⊢;rw[a3.o]at u ⊢;clear a1 a2 a3;obtain⟨m0,H0⟩:=a_ (I_ s 0);obtain⟨m1,H1⟩:=a_ (I_ p 0);obtain⟨m2,H2⟩:=a_ (I_ o 0);simp only at x v y;rw[H0.o]at x ⊢;rw[H1.o]at v ⊢;rw[H2.o]at y ⊢;clear H0 H1 H2
 cases s with
 | mk m b0 n0 V x0 l0=>
 cases p with
 | mk N b1 n1 t1 x1 l1=>
 cases o with
 | mk P b2 Y t2 X l2=>
 unfold c_ at x v y;rw[o0_];simp only[h_.kind,h_.truth,h_.num,h_.text,h_.extra]at x v y u D8 S ⊢;obtain⟨u0,h0⟩:=a_ (ss 0);obtain⟨u1,h1⟩:=a_ (ss 1);obtain⟨u2,h2⟩:=a_ (ss 2);rw[h0.o]at x ⊢;rw[h1.o]at v ⊢;rw[h2.o]at y ⊢;clear h0 h1 h2;obtain⟨z,Hz⟩:=a_ w.heap.size;obtain⟨i,T⟩:=a_ (w.alloc (.cells #[.int .i64 m,.bool b0,.int .i64 n0,.string V,.string x0,u0,.int .i64 N,.bool b1,.int .i64 n1,.string t1,.string x1,u1,.int .i64 P,.bool b2,.int .i64 Y,.string t2,.string X,u2] 41));have HB:=q_ (show Below w.heap.size w i from by rw[<-T.o];exact (Below.refl _ _).alloc (Nat.le_refl _) _);have j:=q_ (show i.heap[z]?=some (.cells #[.int .i64 m,.bool b0,.int .i64 n0,.string V,.string x0,u0,.int .i64 N,.bool b1,.int .i64 n1,.string t1,.string x1,u1,.int .i64 P,.bool b2,.int .i64 Y,.string t2,.string X,u2] 41 (0,0)) from by rw[<-T.o,<-Hz.o];exact heap_alloc_new w _);go_enter Tryz.func15,Tryz.ntmps15
 go_upto_region 1 with fail;rw[T.o,Hz.o];clear T;have p0:=(show i.cell? ⟨z,0,none⟩=some (.int .i64 m) from cell_of_heap j.o 0);have p1:=(show i.cell? ⟨z,1,none⟩=some (.bool b0) from cell_of_heap j.o 1);have p2:=(show i.cell? ⟨z,2,none⟩=some (.int .i64 n0) from cell_of_heap j.o 2);have p3:=(show i.cell? ⟨z,3,none⟩=some (.string V) from cell_of_heap j.o 3);have p4:=(show i.cell? ⟨z,4,none⟩=some (.string x0) from cell_of_heap j.o 4);have U:=(show i.cell? ⟨z,5,none⟩=some u0 from cell_of_heap j.o 5);have p6:=(show i.cell? ⟨z,6,none⟩=some (.int .i64 N) from cell_of_heap j.o 6);have p7:=(show i.cell? ⟨z,7,none⟩=some (.bool b1) from cell_of_heap j.o 7);have Z:=(show i.cell? ⟨z,8,none⟩=some (.int .i64 n1) from cell_of_heap j.o 8);have p9:=(show i.cell? ⟨z,9,none⟩=some (.string t1) from cell_of_heap j.o 9);have C:=(show i.cell? ⟨z,10,none⟩=some (.string x1) from cell_of_heap j.o 10);have D:=(show i.cell? ⟨z,11,none⟩=some u1 from cell_of_heap j.o 11);have J:=(show i.cell? ⟨z,12,none⟩=some (.int .i64 P) from cell_of_heap j.o 12);have B:=(show i.cell? ⟨z,13,none⟩=some (.bool b2) from cell_of_heap j.o 13);have A:=(show i.cell? ⟨z,14,none⟩=some (.int .i64 Y) from cell_of_heap j.o 14);have I:=(show i.cell? ⟨z,15,none⟩=some (.string t2) from cell_of_heap j.o 15);have E:=(show i.cell? ⟨z,16,none⟩=some (.string X) from cell_of_heap j.o 16);have L:=(show i.cell? ⟨z,17,none⟩=some u2 from cell_of_heap j.o 17);go_wp2_with fail;refine (x.o _ HB.o).mono ?_;rintro e w2 ⟨rfl,hb⟩;have r:=q_ (HB.o.trans (hb.mono HB.o.size));have d:=q_ ((hb.block _ (b_ j.o)).trans j.o);clear hb p0 p1 p2 p3 p4 U p6 p7 Z p9 C D J B A I E L;have p0:=(show w2.cell? ⟨z,0,none⟩=some (.int .i64 m) from cell_of_heap d.o 0);have p1:=(show w2.cell? ⟨z,1,none⟩=some (.bool b0) from cell_of_heap d.o 1);have p2:=(show w2.cell? ⟨z,2,none⟩=some (.int .i64 n0) from cell_of_heap d.o 2);have p3:=(show w2.cell? ⟨z,3,none⟩=some (.string V) from cell_of_heap d.o 3);have p4:=(show w2.cell? ⟨z,4,none⟩=some (.string x0) from cell_of_heap d.o 4);have U:=(show w2.cell? ⟨z,5,none⟩=some u0 from cell_of_heap d.o 5);have p6:=(show w2.cell? ⟨z,6,none⟩=some (.int .i64 N) from cell_of_heap d.o 6);have p7:=(show w2.cell? ⟨z,7,none⟩=some (.bool b1) from cell_of_heap d.o 7);have Z:=(show w2.cell? ⟨z,8,none⟩=some (.int .i64 n1) from cell_of_heap d.o 8);have p9:=(show w2.cell? ⟨z,9,none⟩=some (.string t1) from cell_of_heap d.o 9);have C:=(show w2.cell? ⟨z,10,none⟩=some (.string x1) from cell_of_heap d.o 10);have D:=(show w2.cell? ⟨z,11,none⟩=some u1 from cell_of_heap d.o 11);have J:=(show w2.cell? ⟨z,12,none⟩=some (.int .i64 P) from cell_of_heap d.o 12);have B:=(show w2.cell? ⟨z,13,none⟩=some (.bool b2) from cell_of_heap d.o 13);have A:=(show w2.cell? ⟨z,14,none⟩=some (.int .i64 Y) from cell_of_heap d.o 14);have I:=(show w2.cell? ⟨z,15,none⟩=some (.string t2) from cell_of_heap d.o 15);have E:=(show w2.cell? ⟨z,16,none⟩=some (.string X) from cell_of_heap d.o 16);have L:=(show w2.cell? ⟨z,17,none⟩=some u2 from cell_of_heap d.o 17)
 cases m0 with
 | false=>
  go_wp2_with fail;go_ret;exact⟨rfl,r.o⟩
 | true=>
  go_wp2_with fail;refine (v.o _ r.o).mono ?_;rintro e l ⟨rfl,hb⟩;have q:=q_ (r.o.trans (hb.mono r.o.size));have c:=q_ ((hb.block _ (b_ d.o)).trans d.o);clear hb p0 p1 p2 p3 p4 U p6 p7 Z p9 C D J B A I E L;have p0:=(show l.cell? ⟨z,0,none⟩=some (.int .i64 m) from cell_of_heap c.o 0);have p1:=(show l.cell? ⟨z,1,none⟩=some (.bool b0) from cell_of_heap c.o 1);have p2:=(show l.cell? ⟨z,2,none⟩=some (.int .i64 n0) from cell_of_heap c.o 2);have p3:=(show l.cell? ⟨z,3,none⟩=some (.string V) from cell_of_heap c.o 3);have p4:=(show l.cell? ⟨z,4,none⟩=some (.string x0) from cell_of_heap c.o 4);have U:=(show l.cell? ⟨z,5,none⟩=some u0 from cell_of_heap c.o 5);have p6:=(show l.cell? ⟨z,6,none⟩=some (.int .i64 N) from cell_of_heap c.o 6);have p7:=(show l.cell? ⟨z,7,none⟩=some (.bool b1) from cell_of_heap c.o 7);have Z:=(show l.cell? ⟨z,8,none⟩=some (.int .i64 n1) from cell_of_heap c.o 8);have p9:=(show l.cell? ⟨z,9,none⟩=some (.string t1) from cell_of_heap c.o 9);have C:=(show l.cell? ⟨z,10,none⟩=some (.string x1) from cell_of_heap c.o 10);have D:=(show l.cell? ⟨z,11,none⟩=some u1 from cell_of_heap c.o 11);have J:=(show l.cell? ⟨z,12,none⟩=some (.int .i64 P) from cell_of_heap c.o 12);have B:=(show l.cell? ⟨z,13,none⟩=some (.bool b2) from cell_of_heap c.o 13);have A:=(show l.cell? ⟨z,14,none⟩=some (.int .i64 Y) from cell_of_heap c.o 14);have I:=(show l.cell? ⟨z,15,none⟩=some (.string t2) from cell_of_heap c.o 15);have E:=(show l.cell? ⟨z,16,none⟩=some (.string X) from cell_of_heap c.o 16);have L:=(show l.cell? ⟨z,17,none⟩=some u2 from cell_of_heap c.o 17)
  cases m1 with
  | false=>
   go_wp2_with fail;go_ret;exact⟨rfl,q.o⟩
  | true=>
   go_wp2_with fail;refine (y.o _ q.o).mono ?_;rintro e f ⟨rfl,hb⟩;have k:=q_ (q.o.trans (hb.mono q.o.size));have a:=q_ ((hb.block _ (b_ c.o)).trans c.o);clear hb p0 p1 p2 p3 p4 U p6 p7 Z p9 C D J B A I E L;have p0:=(show f.cell? ⟨z,0,none⟩=some (.int .i64 m) from cell_of_heap a.o 0);have p1:=(show f.cell? ⟨z,1,none⟩=some (.bool b0) from cell_of_heap a.o 1);have p2:=(show f.cell? ⟨z,2,none⟩=some (.int .i64 n0) from cell_of_heap a.o 2);have p3:=(show f.cell? ⟨z,3,none⟩=some (.string V) from cell_of_heap a.o 3);have p4:=(show f.cell? ⟨z,4,none⟩=some (.string x0) from cell_of_heap a.o 4);have U:=(show f.cell? ⟨z,5,none⟩=some u0 from cell_of_heap a.o 5);have p6:=(show f.cell? ⟨z,6,none⟩=some (.int .i64 N) from cell_of_heap a.o 6);have p7:=(show f.cell? ⟨z,7,none⟩=some (.bool b1) from cell_of_heap a.o 7);have Z:=(show f.cell? ⟨z,8,none⟩=some (.int .i64 n1) from cell_of_heap a.o 8);have p9:=(show f.cell? ⟨z,9,none⟩=some (.string t1) from cell_of_heap a.o 9);have C:=(show f.cell? ⟨z,10,none⟩=some (.string x1) from cell_of_heap a.o 10);have D:=(show f.cell? ⟨z,11,none⟩=some u1 from cell_of_heap a.o 11);have J:=(show f.cell? ⟨z,12,none⟩=some (.int .i64 P) from cell_of_heap a.o 12);have B:=(show f.cell? ⟨z,13,none⟩=some (.bool b2) from cell_of_heap a.o 13);have A:=(show f.cell? ⟨z,14,none⟩=some (.int .i64 Y) from cell_of_heap a.o 14);have I:=(show f.cell? ⟨z,15,none⟩=some (.string t2) from cell_of_heap a.o 15);have E:=(show f.cell? ⟨z,16,none⟩=some (.string X) from cell_of_heap a.o 16);have L:=(show f.cell? ⟨z,17,none⟩=some u2 from cell_of_heap a.o 17)
   cases m2 with
   | false=>
    go_wp2_with fail;go_ret;exact⟨rfl,k.o⟩
   | true=>
    by_cases M:N=8
    ·have e1:(N != 8)=false:=by simpa using M
     have E1:=q_ (D8.o.1 M);clear M;by_cases G:m=8
     ·have e0:(m != 8)=false:=by simpa using G
      have E0:=q_ (S.o.1 (.inl G));clear G;have a4:(f.alloc (.cells #[.int .i64 8,.int .i64 9,.int .i64 10,.int .i64 4,.int .i64 1,.int .i64 2,.int .i64 3] 3)).cell? ⟨z,12,none⟩=some (.int .i64 P):=cell_of_heap ((Below.heap_alloc _ _ _ (b_ a.o)).trans a.o) 12;have a0:=q_ (u.o (f.alloc (.cells #[.int .i64 8,.int .i64 9,.int .i64 10,.int .i64 4,.int .i64 1,.int .i64 2,.int .i64 3] 3)) f.heap.size (uz_ f));clear D8 S u;go_wp2_with fail;refine a0.o.mono ?_;rintro e w5 ⟨rfl,a5⟩;subst w5;go_wp2_with fail;go_ret;exact⟨by rw[E0.o,E1.o];rfl,k.o.alloc (by have:=k.o.size;omega) _⟩
     ·have e0:(m != 8)=true:=bne_iff_ne.2 G;by_cases O:m=9
      ·have e9:(m != 9)=false:=by simpa using O
       have E0:=q_ (S.o.1 (.inr O));clear G O;have a4:(f.alloc (.cells #[.int .i64 8,.int .i64 9,.int .i64 10,.int .i64 4,.int .i64 1,.int .i64 2,.int .i64 3] 3)).cell? ⟨z,12,none⟩=some (.int .i64 P):=cell_of_heap ((Below.heap_alloc _ _ _ (b_ a.o)).trans a.o) 12;have a0:=q_ (u.o (f.alloc (.cells #[.int .i64 8,.int .i64 9,.int .i64 10,.int .i64 4,.int .i64 1,.int .i64 2,.int .i64 3] 3)) f.heap.size (uz_ f));clear D8 S u;go_wp2_with fail;refine a0.o.mono ?_;rintro e w5 ⟨rfl,a5⟩;subst w5;go_wp2_with fail;go_ret;exact⟨by rw[E0.o,E1.o];rfl,k.o.alloc (by have:=k.o.size;omega) _⟩
      ·have e9:(m != 9)=true:=bne_iff_ne.2 O;have E0:=q_ (S.o.2 (by omega));clear G O;go_wp2_with fail;go_ret;exact⟨by rw[E0.o,E1.o];rfl,k.o⟩
    ·have e1:(N != 8)=true:=bne_iff_ne.2 M;have E1:=q_ (D8.o.2 M);clear M;go_wp2_with fail;go_ret;exact⟨by rw[E1.o];rfl,k.o⟩
theorem bu_ {P:Program} (w:World) (a:Addr) (ty:TypeId) (c:Array Value) (d:TypeDesc) (f:∀j,j<c.size->w.cell? (a.add j)=c[j]?)
    (l:P.underlying ty=some d) (m:d.isRow=true) (hi:(P.info? ty).map (·.size)=some c.size):(loadVar ty a).run P w = .ok (.agg c) w:=by
 have k:(loadCells a c.size).run P w = .ok c w:=by
  have:=run_loadCells_list (P:=P) w a c.toList (λj v e=>by
   have g:j<c.size:=by have:=(List.getElem?_eq_some_iff.1 e).1;simpa using this
   rw[f j g,<-Array.getElem?_toList];exact e)
  rw[Array.toArray_toList,Array.length_toList]at this;exact this
 cases hq:P.info? ty with
 | none=>simp[hq]at hi
 | some i=>
  have h:i.size=c.size:=by simpa [hq] using hi
  have b:(isAgg ty).run P w = .ok true w:=by
   unfold isAgg;rw[Sem.run_bind,run_underlying l w]
   cases d<;>simp_all
  simp[loadVar,Sem.run_bind,b,sizeOf,typeInfo,hq,h,k]
theorem nc_ {P:Program} {b:Array Oper} {rest:List Oper} {op:Oper} {a:Act} {w:World} {Q:Exit->Act->World->Prop} (e:op.guard=none) (ty:TypeId) (x:Operand) (k:op.op = .load ty x) {p:Addr} (i:a.eval x = .pointer (some p)) (c:Array Value) (d:TypeDesc) (g:∀j,j<c.size->w.cell? (p.add j)=c[j]?)
    (m:P.underlying ty=some d) (f:d.isRow=true) (hi:(P.info? ty).map (·.size)=some c.size) (h:wpList P b Q rest (a.put op.dst (.agg c)) w):wpList P b Q (op::rest) a w:=
 wpList_plain e λ_ l=>by
  unfold Oper.wp execOp;simp only[k,i,Instr.loadAt,Instr.sureAddr,Sem.run_bind,Sem.run_pure,Result.andThen_ok,bu_ w p ty c d g m f hi];exact l _ _ h
theorem gj_:(Tryz.prog.info? 41).map (·.size)=some 18:=by kernel_rfl
theorem e2_:(Tryz.prog.info? 99).map (·.size)=some 18:=by kernel_rfl
theorem Im_ (t:d_) (q:OkT t) (F:Nat->Prop) (ss:Nat->Value) (w:World) (d:∀g,F g->g<w.heap.size) (s:∀n,n<3->VRd w F (t.get n) (.agg (c_ (t.get n) (ss n)))) (l:F_ w) :
    Calls Tryz.prog 46 #[.agg (s_ t ss)] w (u_ (!(dj_ t)) w):=by
 have b:=q_ (λ(W:World) (hb:Below w.heap.size w W)=>xk_ t q F ss W (λg h=>Nat.lt_of_lt_of_le (d g h) hb.size) (λn u=>(s n u).under hb d) (f_ l hb));clear s d l q;unfold u_ at b ⊢;obtain⟨m,r⟩:=a_ (dj_ t);rw[r.o]at b ⊢;clear r;obtain⟨f,c⟩:=ah_ t ss;rw[c.o]at b ⊢;have v:=q_ (gj_.trans (congrArg some c.size.symm));obtain⟨z,j⟩:=a_ w.heap.size;obtain⟨k,a⟩:=a_ (w.alloc (.cells f 41));have i:=q_ (show Below w.heap.size w k from by rw[<-a.o];exact (Below.refl _ _).alloc (Nat.le_refl _) _);have x:=q_ (show k.heap[z]?=some (.cells f 41 (0,0)) from by rw[<-a.o,<-j.o];exact heap_alloc_new w _);go_enter Tryz.func46,Tryz.ntmps46
 go_upto_region 1 with fail;rw[a.o,j.o];clear a;go_wp2_with ((with_reducible refine e_ (some 3) ?_);refine A_ rfl 41 _ rfl z 0 rfl f _ (p_ x.o) Tryz.underlying41 rfl v.o ?_)
 refine (b.o _ i.o).mono ?_;rintro e w2 ⟨rfl,hb⟩;have p:=q_ (i.o.trans (hb.mono i.o.size));clear hb;go_wp2_with fail;go_ret;exact⟨rfl,p.o⟩
theorem TrR.cells {w:World} {F:Nat->Prop} {L:List d_} {A:Option Addr} {n:Nat} (h:SRd 18 TrR w F L A n) {k:Nat} {t:d_} (ht:L[k]?=some t) :
    ∃ad ss,A=some ad/\F ad.block/\(∀j,j<(s_ t ss).size->w.cell? ((ad.add (k*18)).add j)=(s_ t ss)[j]?)/\∀i,i<3->VRd w F (t.get i) (.agg (c_ (t.get i) (ss i))):=by
 obtain⟨ad,c,e,d,g,a,ss,rfl,f⟩:=h.at_ ht;exact⟨ad,ss,e,d,λj b=>by rw[add_of_add];exact a j b,f⟩
def J9_ (b:Bool) (w:World) (e:Ending) (w':World):Prop:=∃r:Int,e = .returned (.int .i64 r)/\decide (0<=r)=b/\Below w.heap.size w w'
theorem E7_ (L:List d_) (i:∀t,t∈L->OkT t) (F:Nat->Prop) (A:Option Addr) (n c:Nat) (w:World) (v:∀g,F g->g<w.heap.size) (h:SRd 18 TrR w F L A n) (V:n<=1000000000) (C:F_ w) :
    Calls Tryz.prog 111 #[.slice A n c,.func (.func 46) #[] #[]] w (J9_ (!(L.all dj_)) w):=by
 have M:=q_ (λ(W:World) (hb:Below w.heap.size w W)=>h.under TrR.good hb v);have B:=q_ h.1;have d:=q_ (λ(W:World) (hb:Below w.heap.size w W) (t:d_) (ht:t∈L) (ss:Nat->Value) (J:∀n,n<3->VRd W F (t.get n) (.agg (c_ (t.get n) (ss n))))=>Im_ t (i t ht) F ss W (λg h=>Nat.lt_of_lt_of_le (v g h) hb.size) J (f_ C hb));unfold u_ at d;clear h i v C;obtain⟨r,p⟩:=a_ (!(L.all dj_));rw[p.o];go_enter Tryz.func111,Tryz.ntmps111
 go_wp2_with fail;go_loopw [8] (λx N=>∃k:Nat,k<=n/\x = .int .i64 (k:Nat)/\Q_ (Below w.heap.size w N/\(L.take k).all dj_=true)) (λx _=>n-(intOf x).toNat)
 case atStart=>exact⟨0,by omega,rfl,q_ ⟨Below.refl _ _,by simp⟩⟩
 case round=>
  obtain⟨k,T,rfl,b⟩:=hrel;by_cases D:k<n
  ·obtain⟨y,f⟩:∃y,L[k]?=some y:=⟨L[k]'(by rw[<-B.o];exact D),List.getElem?_eq_getElem _⟩;have G:=q_ f;obtain⟨ad,ss,rfl,_,q,I⟩:=TrR.cells (M.o wr b.o.1) f;have a:=q_ (d.o wr b.o.1 y (List.mem_of_getElem? f) ss I);clear f I;obtain⟨m,u⟩:=a_ (dj_ y);rw[u.o]at a;obtain⟨R,l⟩:=ah_ y ss;rw[l.o]at a q;have E:=q_ q;clear q;have P:=q_ (gj_.trans (congrArg some l.size.symm));have X:(0:Int)<=k:=by omega
   have U:(k:Int)<n:=by omega
   have S:IntKind.i64.wrap ((k:Int)+1)=(k:Int)+1:=IntWalk.i64_in _ (by omega);go_wp2_with ((with_reducible refine e_ (some 15) ?_);refine nc_ rfl 41 _ rfl rfl R _ E.o Tryz.underlying41 rfl P.o ?_)
   refine a.o.mono ?_;rintro e w2 ⟨rfl,hb⟩;have j:=q_ (b.o.1.trans (hb.mono b.o.1.size));have O:=q_ b.o.2;clear hb b a E
   cases m with
   | false=>
    have s:=q_ (show r=true from by rw[<-p.o,Bool.not_eq_true',List.all_eq_false];exact⟨y,List.mem_of_getElem? G.o,by rw[u.o];exact Bool.false_ne_true⟩);go_wp2_with fail;go_ret;exact⟨(k:Int),rfl,by rw[s.o];simp,j.o⟩
   | true=>
    go_wp2_with fail;go_roundw
    case rel=>exact⟨k+1,by omega,by go_num,q_ ⟨j.o,by rw[g_ G.o,List.all_append,O.o,Bool.true_and];simp[u.o]⟩⟩
    case measure=>simp[intOf];omega
  ·have z:n=k:=by omega
   subst z;have s:=q_ (show r=false from by rw[<-p.o,Bool.not_eq_false'];have h:=b.o.2;rw[List.take_of_length_le (by rw[<-B.o];exact Nat.le_refl _)]at h;exact h);go_wp2_with fail;go_ret;exact⟨-1,rfl,by rw[s.o];simp,b.o.1⟩
theorem qe_ (L:List d_) (a:∀t,t∈L->OkT t) (F:Nat->Prop) (A:Option Addr) (n c:Nat) (w:World) (i:∀g,F g->g<w.heap.size) (h:SRd 18 TrR w F L A n) (k:n<=1000000000) (f:F_ w) :
    Calls Tryz.prog 45 #[.slice A n c,.func (.func 46) #[] #[]] w (u_ (!(L.all dj_)) w):=by
 have b:=q_ (E7_ L a F A n c w i h k f);unfold J9_ at b;clear h a i f;obtain⟨r,d⟩:=a_ (!(L.all dj_));rw[d.o]at b ⊢;clear d;go_enter Tryz.func45,Tryz.ntmps45
 go_wp2_with fail;refine b.o.mono ?_;rintro e m ⟨q,rfl,j,hb⟩;have l:=q_ j;clear j;go_wp2_with fail;go_ret;exact⟨by rw[<-l.o];rfl,hb⟩
def e3_ (W:Way):Array Value:=#[.int .i64 (W.i:Nat),.int .i64 (W.j:Nat),.int .i64 (W.k:Nat)]
theorem A2_ (W:Way) (F:W.Ok) (a b:d_) (sa sb:Nat->Value) (g:Nat) (w:World) (x:w.heap[g]?=some (.cells (e3_ W) 101 (0,0))) (D:∀n,ov_ (a.get n)) (E:∀n,ag_ (b.get n)) (p:F_ w) (q:as_ w) :
    Calls Tryz.prog 50 #[.agg (s_ a sa),.agg (s_ b sb),.pointer (some ⟨g,0,none⟩)] w (xj_ W a b w):=by
 have h:=q_ (λ(A:World) (hb:Below w.heap.size w A)=>lj_ W F a b sa sb A D E (f_ p hb) (n_ q hb));clear D E p q F;unfold xj_ at h ⊢;obtain⟨v,B⟩:=a_ (w_ W a b);rw[B.o]at h ⊢;clear B;obtain⟨y,s⟩:=ah_ a sa;obtain⟨t,r⟩:=ah_ b sb;rw[s.o,r.o]at h ⊢;have P:=q_ (e2_.trans (congrArg some s.size.symm));have N:=q_ (e2_.trans (congrArg some r.size.symm));obtain⟨z,u⟩:=a_ w.heap.size;obtain⟨d,c⟩:=a_ ((w.alloc (.cells y 99)).alloc (.cells t 99));have m:=q_ (show Below w.heap.size w d from by rw[<-c.o];exact L_ w _ _);have M:=q_ (show d.heap[z]?=some (.cells y 99 (0,0)) from by rw[<-c.o,<-u.o];exact heap_alloc2_old w _ _);have O:=q_ (show d.heap[z+1]?=some (.cells t 99 (0,0)) from by rw[<-c.o,<-u.o];exact heap_alloc2_new w _ _);have f:=q_ (show d.heap[g]?=some (.cells (e3_ W) 101 (0,0)) from (m.o.block g (b_ x)).trans x);clear x;obtain⟨i,S⟩:=a_ W.i;obtain⟨j,I⟩:=a_ W.j;obtain⟨l,L⟩:=a_ W.k;unfold e3_ at f;rw[S.o,I.o,L.o]at h f;have G:d.cell? ⟨g,0,none⟩=some (.int .i64 (i:Nat)):=cell_of_heap f.o 0;have J:d.cell? ⟨g,1,none⟩=some (.int .i64 (j:Nat)):=cell_of_heap f.o 1;have R:d.cell? ⟨g,2,none⟩=some (.int .i64 (l:Nat)):=cell_of_heap f.o 2;go_enter Tryz.func50,Tryz.ntmps50
 go_upto_region 1 with fail;rw[c.o,u.o];clear c
 go_wp2_with (first
  | ((with_reducible refine e_ (some 6) ?_);refine A_ rfl 99 _ rfl z 0 rfl y _ (p_ M.o) Tryz.underlying99 rfl P.o ?_)
  | ((with_reducible refine e_ (some 7) ?_);refine A_ rfl 99 _ rfl (z+1) 0 rfl t _ (p_ O.o) Tryz.underlying99 rfl N.o ?_))
 refine (h.o _ m.o).mono ?_;rintro e w2 ⟨rfl,hb⟩;have C:=q_ (m.o.trans (hb.mono m.o.size));clear hb G J R;go_wp2_with fail;go_ret;exact⟨rfl,C.o⟩
theorem A3_ (W:Way) (F:W.Ok) (a b:d_) (sa sb:Nat->Value) (g:Nat) (w:World) (x:w.heap[g]?=some (.cells (e3_ W) 101 (0,0))) (D:∀n,ov_ (a.get n)) (E:∀n,ag_ (b.get n)) (p:F_ w) (q:as_ w) :
    Calls Tryz.prog 53 #[.agg (s_ a sa),.agg (s_ b sb),.pointer (some ⟨g,0,none⟩)] w (u_ (w_ W a b==0) w):=by
 have h:=q_ (λ(A:World) (hb:Below w.heap.size w A)=>lj_ W F a b sa sb A D E (f_ p hb) (n_ q hb));clear D E p q F;unfold xj_ at h;unfold u_;obtain⟨v,B⟩:=a_ (w_ W a b);rw[B.o]at h ⊢;clear B;obtain⟨y,s⟩:=ah_ a sa;obtain⟨t,r⟩:=ah_ b sb;rw[s.o,r.o]at h ⊢;have P:=q_ (e2_.trans (congrArg some s.size.symm));have N:=q_ (e2_.trans (congrArg some r.size.symm));obtain⟨z,u⟩:=a_ w.heap.size;obtain⟨d,c⟩:=a_ ((w.alloc (.cells y 99)).alloc (.cells t 99));have m:=q_ (show Below w.heap.size w d from by rw[<-c.o];exact L_ w _ _);have M:=q_ (show d.heap[z]?=some (.cells y 99 (0,0)) from by rw[<-c.o,<-u.o];exact heap_alloc2_old w _ _);have O:=q_ (show d.heap[z+1]?=some (.cells t 99 (0,0)) from by rw[<-c.o,<-u.o];exact heap_alloc2_new w _ _);have f:=q_ (show d.heap[g]?=some (.cells (e3_ W) 101 (0,0)) from (m.o.block g (b_ x)).trans x);clear x;obtain⟨i,S⟩:=a_ W.i;obtain⟨j,I⟩:=a_ W.j;obtain⟨l,L⟩:=a_ W.k;unfold e3_ at f;rw[S.o,I.o,L.o]at h f;have G:d.cell? ⟨g,0,none⟩=some (.int .i64 (i:Nat)):=cell_of_heap f.o 0;have J:d.cell? ⟨g,1,none⟩=some (.int .i64 (j:Nat)):=cell_of_heap f.o 1;have R:d.cell? ⟨g,2,none⟩=some (.int .i64 (l:Nat)):=cell_of_heap f.o 2;go_enter Tryz.func53,Tryz.ntmps53
 go_upto_region 1 with fail;rw[c.o,u.o];clear c
 go_wp2_with (first
  | ((with_reducible refine e_ (some 6) ?_);refine A_ rfl 99 _ rfl z 0 rfl y _ (p_ M.o) Tryz.underlying99 rfl P.o ?_)
  | ((with_reducible refine e_ (some 7) ?_);refine A_ rfl 99 _ rfl (z+1) 0 rfl t _ (p_ O.o) Tryz.underlying99 rfl N.o ?_))
 refine (h.o _ m.o).mono ?_;rintro e w2 ⟨rfl,hb⟩;have C:=q_ (m.o.trans (hb.mono m.o.size));clear hb G J R;go_wp2_with fail;go_ret;exact⟨rfl,C.o⟩
end
end Go.Proofs.YtefhfadjajcmkaaGreatDoor
