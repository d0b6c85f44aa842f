/- A cursor, step by step: the document's, and the program's numbers that go with it. -/
import Derived.Test.YtefhfadjajcmkaaGreatDoorJ5
set_option linter.unusedVariables false
set_option linter.unusedSimpArgs false
set_option maxRecDepth 100000
set_option maxHeartbeats 64000000
namespace Go.Proofs.YtefhfadjajcmkaaGreatDoor
open Go.Lib (cell_of_heap)
section
open Go Go.RowKit
theorem ds_ (x y:Int) (w:World):Calls Tryz.prog 126 #[.int .i64 x,.int .i64 y] w λe w'=>e = .returned (.int .i64 (ce_ x y))/\w'=w:=by
 refine (Any.cmp_Compare_int Tryz.lays122 x y w).mono ?_;rintro e w' ⟨rfl,a⟩;refine⟨q7_ ?_,a⟩;unfold Lib.compareInt ce_
 (repeat' split)<;>first | rfl | (exfalso;omega)
theorem Ij_ (x y:Int) (g n:Nat) (w:World) (h0:w.cell? ⟨g,0,none⟩=some (.int .i64 x)) (h1:w.cell? ⟨g,1,none⟩=some (.int .i64 y)) :
    Calls Tryz.prog 135 #[.slice (some ⟨g,0,none⟩) 2 n] w λe w'=>e = .returned (.int .i64 (a6_ x y))/\w'=w:=by
 obtain⟨v,a⟩:=a_ (a6_ x y);rw[a.o];unfold a6_ at a;go_enter Tryz.func135,Tryz.ntmps135
 go_wp2_with fail;go_loopw [8] (λl r=>∃k:Nat,k<=2/\l = .int .i64 (k:Nat)/\r=w/\Q_ ((0<k->x=0)/\(1<k->y=0))) (λl _=>2-(intOf l).toNat)
 case atStart=>exact⟨0,by omega,rfl,rfl,q_ ⟨λh=>absurd h (by omega),λh=>absurd h (by omega)⟩⟩
 case round=>
  obtain⟨k,t,rfl,rfl,hz⟩:=hrel;by_cases i:k=2
  ·subst i;have d:=q_ (show v=0 from by rw[<-a.o,if_pos (hz.o.1 (by omega)),hz.o.2 (by omega)]);clear hz a;go_wp2_with fail;go_ret;exact⟨q7_ d.o.symm,rfl⟩
  ·by_cases j:k=1
   ·subst j;have e0:=q_ (hz.o.1 (by omega));clear hz;by_cases f:y=0
    ·have m:(y != 0)=false:=by simpa using f
     have q:=q_ f;clear f a;go_wp2_with fail;go_roundw
     case rel=>exact⟨2,by omega,(by first | rfl | trivial),(by first | rfl | trivial),q_ ⟨λ_=>e0.o,λ_=>q.o⟩⟩
     case measure=>simp[intOf]
    ·have m:(y != 0)=true:=bne_iff_ne.2 f;have d:=q_ (show v=y from by rw[<-a.o,if_pos e0.o]);clear f a;go_wp2_with fail;go_ret;exact⟨q7_ d.o.symm,rfl⟩
   ·have p:k=0:=by omega
    subst p;clear j i hz;by_cases b:x=0
    ·have m:(x != 0)=false:=by simpa using b
     have s:=q_ b;clear b a;go_wp2_with fail;go_roundw
     case rel=>exact⟨1,by omega,(by first | rfl | trivial),(by first | rfl | trivial),q_ ⟨λ_=>s.o,λh=>absurd h (by omega)⟩⟩
     case measure=>simp[intOf]
    ·have m:(x != 0)=true:=bne_iff_ne.2 b;have d:=q_ (show v=x from by rw[<-a.o,if_neg b]);clear b a;go_wp2_with fail;go_ret;exact⟨q7_ d.o.symm,rfl⟩
theorem lc_ (y:Value) (w:World):(Instr.typeAssert (.iface 194 y) 20 188 true).run Tryz.prog w = .ok (.tuple #[.int .i64 0,.bool false]) w:=by kernel_rfl
theorem j3_ (y:Value) (w:World):(Instr.typeAssert (.iface 194 y) 20 189 true).run Tryz.prog w = .ok (.tuple #[.string ⟨#[]⟩,.bool false]) w:=by kernel_rfl
theorem mz_ (y:Value) (w:World):(Instr.typeAssert (.iface 194 y) 20 191 true).run Tryz.prog w = .ok (.tuple #[.slice none 0 0,.bool false]) w:=by kernel_rfl
theorem ld_ (y:Value) (w:World):(Instr.typeAssert (.iface 194 y) 20 193 true).run Tryz.prog w = .ok (.tuple #[.int .i64 0,.bool false]) w:=by kernel_rfl
theorem i9_ (y:Value) (w:World):(Instr.typeAssert (.iface 194 y) 20 194 true).run Tryz.prog w = .ok (.tuple #[y,.bool true]) w:=by kernel_rfl
theorem or_ (y:Value) (w:World):(Instr.typeAssert (.iface 188 y) 20 188 true).run Tryz.prog w = .ok (.tuple #[y,.bool true]) w:=by kernel_rfl
theorem m0_ (y:Value) (w:World):(Instr.typeAssert (.iface 188 y) 20 189 true).run Tryz.prog w = .ok (.tuple #[.string ⟨#[]⟩,.bool false]) w:=by kernel_rfl
theorem m1_ (y:Value) (w:World):(Instr.typeAssert (.iface 189 y) 20 188 true).run Tryz.prog w = .ok (.tuple #[.int .i64 0,.bool false]) w:=by kernel_rfl
theorem le_ (y:Value) (w:World):(Instr.typeAssert (.iface 189 y) 20 189 true).run Tryz.prog w = .ok (.tuple #[y,.bool true]) w:=by kernel_rfl
theorem os_ (y:Value) (w:World):(Instr.typeAssert (.iface 234 y) 20 188 true).run Tryz.prog w = .ok (.tuple #[.int .i64 0,.bool false]) w:=by kernel_rfl
theorem m2_ (y:Value) (w:World):(Instr.typeAssert (.iface 234 y) 20 189 true).run Tryz.prog w = .ok (.tuple #[.string ⟨#[]⟩,.bool false]) w:=by kernel_rfl
theorem qc_ (y:Value) (w:World):(Instr.typeAssert (.iface 234 y) 20 191 true).run Tryz.prog w = .ok (.tuple #[.slice none 0 0,.bool false]) w:=by kernel_rfl
theorem ot_ (y:Value) (w:World):(Instr.typeAssert (.iface 234 y) 20 193 true).run Tryz.prog w = .ok (.tuple #[.int .i64 0,.bool false]) w:=by kernel_rfl
theorem lf_ (y:Value) (w:World):(Instr.typeAssert (.iface 234 y) 20 194 true).run Tryz.prog w = .ok (.tuple #[.bool false,.bool false]) w:=by kernel_rfl
theorem lg_ (y:Value) (w:World):(Instr.typeAssert (.iface 237 y) 20 188 true).run Tryz.prog w = .ok (.tuple #[.int .i64 0,.bool false]) w:=by kernel_rfl
theorem j4_ (y:Value) (w:World):(Instr.typeAssert (.iface 237 y) 20 189 true).run Tryz.prog w = .ok (.tuple #[.string ⟨#[]⟩,.bool false]) w:=by kernel_rfl
theorem m3_ (y:Value) (w:World):(Instr.typeAssert (.iface 237 y) 20 191 true).run Tryz.prog w = .ok (.tuple #[.slice none 0 0,.bool false]) w:=by kernel_rfl
theorem lh_ (y:Value) (w:World):(Instr.typeAssert (.iface 237 y) 20 193 true).run Tryz.prog w = .ok (.tuple #[.int .i64 0,.bool false]) w:=by kernel_rfl
theorem ja_ (y:Value) (w:World):(Instr.typeAssert (.iface 237 y) 20 194 true).run Tryz.prog w = .ok (.tuple #[.bool false,.bool false]) w:=by kernel_rfl
theorem f2_ (w:World) (a b c:Obj):(((w.alloc a).alloc b).alloc c).heap[w.heap.size]?=some a:=by rw[Below.heap_alloc _ _ _ (by simp;omega),Below.heap_alloc _ _ _ (by simp)];exact heap_alloc_new w a
theorem f3_ (w:World) (a b c:Obj):(((w.alloc a).alloc b).alloc c).heap[w.heap.size+1]?=some b:=by rw[Below.heap_alloc _ _ _ (by simp)];have:=heap_alloc_new (w.alloc a) b;rwa [show (w.alloc a).heap.size=w.heap.size+1 by simp]at this
theorem f4_ (w:World) (a b c:Obj):(((w.alloc a).alloc b).alloc c).heap[w.heap.size+2]?=some c:=by have:=heap_alloc_new ((w.alloc a).alloc b) c;rwa [show ((w.alloc a).alloc b).heap.size=w.heap.size+2 by simp]at this
theorem Aq_ (a b:h_) (sa sb:Value) (w:World) (r:K_ a.kind≠K_ b.kind) :
    Calls Tryz.prog 68 #[.int .i64 1,.agg (c_ a sa),.agg (c_ b sb)] w (d4_ a b w):=by
 have k:=q_ (λW:World=>c4_ a sa W);have m:=q_ (λW:World=>c4_ b sb W);have y:=q_ (λW:World=>ds_ (K_ a.kind) (K_ b.kind) W);have C:=q_ (show ce_ (K_ a.kind) (K_ b.kind)=G_ a b from (q1_ r).symm);have U:(G_ a b != 0)=true:=bne_iff_ne.2 (by rw[q1_ r];exact λh=>r ((da_.eqv _ _).1 h));unfold oo_ at k m;obtain⟨v,N⟩:=a_ (G_ a b);have V:=q_ (show ∀w',Below w.heap.size w w'->d4_ a b w (.returned (.int .i64 v)) w' from λw' hb=>⟨by rw[N.o],hb⟩);rw[N.o]at C U;clear N;obtain⟨r1,O⟩:=a_ (K_ a.kind);obtain⟨r2,L⟩:=a_ (K_ b.kind);rw[O.o]at k;rw[L.o]at m;rw[O.o,L.o]at y C;have Y:=C;clear O L;obtain⟨q,J⟩:=H_ a sa;obtain⟨n,G⟩:=H_ b sb;rw[J.o]at k ⊢;rw[G.o]at m ⊢;have Q1:=q_ J.size;have Z:=q_ G.size;obtain⟨z,B⟩:=a_ w.heap.size;obtain⟨g,i⟩:=a_ (((w.alloc (.cells #[.int .i64 1] 3)).alloc (.cells q 39)).alloc (.cells n 39));have R:=q_ (show Below w.heap.size w g from by rw[<-i.o];exact (L_ w _ _).alloc (by simp;omega) _);have t:=q_ (show g.heap[z]?=some (.cells #[.int .i64 1] 3 (0,0)) from by rw[<-i.o,<-B.o];exact f2_ w _ _ _);have u:=q_ (show g.heap[z+1]?=some (.cells q 39 (0,0)) from by rw[<-i.o,<-B.o];exact f3_ w _ _ _);have x:=q_ (show g.heap[z+2]?=some (.cells n 39 (0,0)) from by rw[<-i.o,<-B.o];exact f4_ w _ _ _);clear r C;go_enter Tryz.func68,Tryz.ntmps68
 go_upto_region 1 with fail;rw[i.o,B.o];clear i;have P:=q_ (show g.drew.heap[z]?=some (.cells #[.int .i64 1] 3 (0,0))/\g.drew.heap[z+1]?=some (.cells q 39 (0,0))/\g.drew.heap[z+2]?=some (.cells n 39 (0,0)) from ⟨t.o,u.o,x.o⟩);refine wp_region_held_drew (S:=λM=>M.heap[z]?=some (.cells #[.int .i64 1] 3 (0,0))/\M.heap[z+1]?=some (.cells q 39 (0,0))/\M.heap[z+2]?=some (.cells n 39 (0,0))) (by kernel_rfl) P.o λd=>?_;refine V_.o ?_;refine J_ 0 13 (.int .i64 1) d (λw f=>?_) λd=>?_
 ·have p:=cell_of_heap f.1 0;unfold o_;go_simp
 (try simp only[Act.put,aT,aZ,aS]);refine J_ 1 14 (.agg q) d (λw f=>?_) λd=>?_
 ·exact k_ (ap_ f.2.1 39 _ Tryz.underlying39 rfl (by rw[Q1.o];kernel_rfl))
 (try simp only[Act.put,aT,aZ,aS]);refine J_ 3 16 (.int .i64 1) d (λw f=>?_) λd=>?_
 ·have p:=cell_of_heap f.1 0;unfold o_;go_simp
 (try simp only[Act.put,aT,aZ,aS]);refine J_ 4 17 (.agg n) d (λw f=>?_) λd=>?_
 ·exact k_ (ap_ f.2.2 39 _ Tryz.underlying39 rfl (by rw[Z.o];kernel_rfl))
 (try simp only[Act.put,aT,aZ,aS]);refine tkC 2 λK l=>?_;change Oper.wp _ ⟨some 15,_,_,_,_,_⟩ _ _ _ _;go_simp;refine (k.o g.drew).mono ?_;rintro e w2 ⟨rfl,E⟩;have j:=q_ (show Below g.heap.size g w2 from aa_ E);have D:=q_ (show w2.heap[z]?=some (.cells #[.int .i64 1] 3 (0,0))/\w2.heap[z+1]?=some (.cells q 39 (0,0))/\w2.heap[z+2]?=some (.cells n 39 (0,0)) from ⟨(j.o.block z (b_ t.o)).trans t.o,(j.o.block (z+1) (b_ u.o)).trans u.o,(j.o.block (z+2) (b_ x.o)).trans x.o⟩);clear E;dsimp only;refine l.out _ _ D.o λd=>?_;clear l K;(try simp only[Act.put,aT,aZ,aS]);refine tkC 5 λK l=>?_;change Oper.wp _ ⟨some 18,_,_,_,_,_⟩ _ _ _ _;go_simp;refine (m.o w2).mono ?_;rintro e A ⟨rfl,I⟩;have s:=q_ (j.o.trans (I.mono j.o.size));have F:=q_ (show A.heap[z]?=some (.cells #[.int .i64 1] 3 (0,0))/\A.heap[z+1]?=some (.cells q 39 (0,0))/\A.heap[z+2]?=some (.cells n 39 (0,0)) from ⟨(s.o.block z (b_ t.o)).trans t.o,(s.o.block (z+1) (b_ u.o)).trans u.o,(s.o.block (z+2) (b_ x.o)).trans x.o⟩);clear I;dsimp only;refine l.out _ _ F.o λd=>?_;clear l K;(try simp only[Act.put,aT,aZ,aS]);refine tkC 6 λK l=>?_;change Oper.wp _ ⟨some 19,_,_,_,_,_⟩ _ _ _ _;go_simp;refine (y.o A).mono ?_;rintro e X ⟨rfl,a0⟩;subst X;dsimp only;refine l.out _ _ F.o λd=>?_;clear l K;(try simp only[Act.put,aT,aZ,aS]);rw[Y.o];refine v_ 7 7 (.int .i64 v) d λd=>?_;(try simp only[Act.put,aT,aZ,aS]);refine⟨wpAnyH_done (by kernel_rfl) ?_ _⟩;clear d;have HG:=q_ (R.o.trans (s.o.mono R.o.size));clear k m y t u x j D P;go_wp2_with fail;go_ret;exact V.o _ HG.o
def ut_ (a b:h_):Int:=a6_ (ce_ a.kind b.kind) (if a.kind=3 then ez_ a.text.data.toList b.text.data.toList else 0)
theorem Ar_ {a b:h_} (d:a.kind=2\/a.kind=3) (hb:b.kind=2\/b.kind=3) (h:¬(a.kind=3/\b.kind=3)):ut_ a b=ce_ a.kind b.kind:=by
 unfold ut_;rcases d with d | d<;>rcases hb with hb | hb<;>rw[d,hb]
 ·rfl
 ·rfl
 ·rfl
 ·exact absurd ⟨d,hb⟩ h
theorem As_ {a b:h_} (h:a.kind=3/\b.kind=3):ut_ a b=ez_ a.text.data.toList b.text.data.toList:=by unfold ut_;rw[h.1,h.2];rfl
def xh_ (z:Nat) (A B:Array Value) (W:World):Prop:=W.heap[z+1]?=some (.cells A 39 (0,0))/\W.heap[z+2]?=some (.cells B 39 (0,0))
theorem ou_ (a b:h_) (sa sb:Value) (w:World) (N:a.kind=2\/a.kind=3) (hb:b.kind=2\/b.kind=3) (fa:ag_ a) (fb:ag_ b) (a1:F_ w) (a2:as_ w) :
    Calls Tryz.prog 68 #[.int .i64 1,.agg (c_ a sa),.agg (c_ b sb)] w (d4_ a b w):=by
 rcases N with N | N<;>rcases hb with hb | hb<;>(
 have t:=q_ (λW:World=>c4_ a sa W);have A:=q_ (λW:World=>c4_ b sb W);have U:=q_ (λW:World=>ds_ (K_ a.kind) (K_ b.kind) W);have HC:=q_ (show ce_ (K_ a.kind) (K_ b.kind)=0 from by rw[N,hb];decide);obtain⟨u,Hu⟩:=a_ (ut_ a b);have L:=q_ (show G_ a b=a6_ (gc_ (ac_ a) (ac_ b)) u from by rw[Ej_ (by omega) (by omega),<-Hu.o];rfl);have n:=q_ (λ(W:World) (hW:Below w.heap.size w W)=>E1_ a b sa sb W (by omega) (by omega) fa fb (f_ a1 hW) (n_ a2 hW));unfold fs_ at n;obtain⟨c,Hc⟩:=a_ (gc_ (ac_ a) (ac_ b));rw[Hc.o]at L n;clear Hc;have a6:=q_ (λ(W:World) (h:¬(a.kind=3/\b.kind=3))=>(show Calls Tryz.prog 126 #[.int .i64 a.kind,.int .i64 b.kind] W (λe w'=>e = .returned (.int .i64 u)/\w'=W) from by rw[<-Hu.o,Ar_ (by omega) (by omega) h];exact ds_ _ _ W));have a5:=q_ (λ(W:World) (h:a.kind=3/\b.kind=3)=>(show Calls Tryz.prog 130 #[.string a.text,.string b.text] W (λe w'=>e = .returned (.int .i64 u)/\w'=W) from by rw[<-Hu.o,As_ h];exact i8_ _ _ W));clear Hu;unfold oo_ at t A;obtain⟨v,Hv⟩:=a_ (G_ a b);have HE:=q_ (show ∀w',Below w.heap.size w w'->d4_ a b w (.returned (.int .i64 v)) w' from λw' hb=>⟨by rw[Hv.o],hb⟩);rw[Hv.o]at L;clear Hv;obtain⟨r1,H1⟩:=a_ (K_ a.kind);obtain⟨r2,H2⟩:=a_ (K_ b.kind);rw[H1.o]at t;rw[H2.o]at A;rw[H1.o,H2.o]at U HC;clear H1 H2;obtain⟨E,F⟩:=H_ a sa;obtain⟨B,J⟩:=H_ b sb;rw[F.o]at t ⊢;rw[J.o]at A ⊢;have Q1:=q_ F.size;have Q2:=q_ J.size;obtain⟨z,Hz⟩:=a_ w.heap.size;obtain⟨m,q⟩:=a_ (((w.alloc (.cells #[.int .i64 1] 3)).alloc (.cells E 39)).alloc (.cells B 39));have HB:=q_ (show Below w.heap.size w m from by rw[<-q.o];exact (L_ w _ _).alloc (by simp;omega) _);have O:=q_ (show m.heap[z]?=some (.cells #[.int .i64 1] 3 (0,0)) from by rw[<-q.o,<-Hz.o];exact f2_ w _ _ _);have P:=q_ (show m.heap[z+1]?=some (.cells E 39 (0,0)) from by rw[<-q.o,<-Hz.o];exact f3_ w _ _ _);have M:=q_ (show m.heap[z+2]?=some (.cells B 39 (0,0)) from by rw[<-q.o,<-Hz.o];exact f4_ w _ _ _);clear fa fb a1 a2;go_enter Tryz.func68,Tryz.ntmps68
 go_upto_region 1 with fail;rw[q.o,Hz.o];clear q;have s1:=q_ (show m.drew.heap[z]?=some (.cells #[.int .i64 1] 3 (0,0))/\m.drew.heap[z+1]?=some (.cells E 39 (0,0))/\m.drew.heap[z+2]?=some (.cells B 39 (0,0)) from ⟨O.o,P.o,M.o⟩);refine wp_region_held_drew (S:=λW'=>W'.heap[z]?=some (.cells #[.int .i64 1] 3 (0,0))/\W'.heap[z+1]?=some (.cells E 39 (0,0))/\W'.heap[z+2]?=some (.cells B 39 (0,0))) (by kernel_rfl) s1.o λf=>?_;refine V_.o ?_;refine J_ 0 13 (.int .i64 1) f (λw l=>?_) λf=>?_
 ·have p:=cell_of_heap l.1 0;unfold o_;go_simp
 (try simp only[Act.put,aT,aZ,aS]);refine J_ 1 14 (.agg E) f (λw l=>?_) λf=>?_
 ·exact k_ (ap_ l.2.1 39 _ Tryz.underlying39 rfl (by rw[Q1.o];kernel_rfl))
 (try simp only[Act.put,aT,aZ,aS]);refine J_ 3 16 (.int .i64 1) f (λw l=>?_) λf=>?_
 ·have p:=cell_of_heap l.1 0;unfold o_;go_simp
 (try simp only[Act.put,aT,aZ,aS]);refine J_ 4 17 (.agg B) f (λw l=>?_) λf=>?_
 ·exact k_ (ap_ l.2.2 39 _ Tryz.underlying39 rfl (by rw[Q2.o];kernel_rfl))
 (try simp only[Act.put,aT,aZ,aS]);refine tkC 2 λK y=>?_;change Oper.wp _ ⟨some 15,_,_,_,_,_⟩ _ _ _ _;go_simp;refine (t.o m.drew).mono ?_;rintro e w2 ⟨rfl,a4⟩;have r:=q_ (show Below m.heap.size m w2 from aa_ a4);have a0:=q_ (show w2.heap[z]?=some (.cells #[.int .i64 1] 3 (0,0))/\w2.heap[z+1]?=some (.cells E 39 (0,0))/\w2.heap[z+2]?=some (.cells B 39 (0,0)) from ⟨(r.o.block z (b_ O.o)).trans O.o,(r.o.block (z+1) (b_ P.o)).trans P.o,(r.o.block (z+2) (b_ M.o)).trans M.o⟩);clear a4;dsimp only;refine y.out _ _ a0.o λf=>?_;clear y K;(try simp only[Act.put,aT,aZ,aS]);refine tkC 5 λK y=>?_;change Oper.wp _ ⟨some 18,_,_,_,_,_⟩ _ _ _ _;go_simp;refine (A.o w2).mono ?_;rintro e k ⟨rfl,a7⟩;have x:=q_ (r.o.trans (a7.mono r.o.size));have s:=q_ (show k.heap[z]?=some (.cells #[.int .i64 1] 3 (0,0))/\k.heap[z+1]?=some (.cells E 39 (0,0))/\k.heap[z+2]?=some (.cells B 39 (0,0)) from ⟨(x.o.block z (b_ O.o)).trans O.o,(x.o.block (z+1) (b_ P.o)).trans P.o,(x.o.block (z+2) (b_ M.o)).trans M.o⟩);clear a7;dsimp only;refine y.out _ _ s.o λf=>?_;clear y K;(try simp only[Act.put,aT,aZ,aS]);refine tkC 6 λK y=>?_;change Oper.wp _ ⟨some 19,_,_,_,_,_⟩ _ _ _ _;go_simp;refine (U.o k).mono ?_;rintro e w4 ⟨rfl,ad⟩;subst w4;dsimp only;refine y.out _ _ s.o λf=>?_;clear y K;(try simp only[Act.put,aT,aZ,aS]);rw[HC.o];refine v_ 7 7 (.int .i64 0) f λf=>?_;(try simp only[Act.put,aT,aZ,aS]);refine⟨wpAnyH_done (by kernel_rfl) ?_ _⟩;clear f;have HG:=q_ (HB.o.trans (x.o.mono HB.o.size));clear t A U O P M r a0 s1;have g:=q_ (show k.heap[z+1]?=some (.cells (c_ a sa) 39 (0,0))/\k.heap[z+2]?=some (.cells (c_ b sb) 39 (0,0)) from by rw[F.o,J.o];exact⟨s.o.2.1,s.o.2.2⟩);clear s Q1 Q2 F J;have i:=q_ (λW:World=>g8_ a sa W);unfold iu_ at i
 cases a with
 | mk k1 V C D X l1=>
 cases b with
 | mk k2 b2 n2 t2 x2 l2=>
 unfold c_ at g i n;simp only[h_.kind,h_.truth,h_.num,h_.text,h_.extra]at g i n a6 a5 N hb;subst N;subst hb;have i:=q_ (λW:World=>(show Calls Tryz.prog 128 #[.agg #[.int .i64 _,.bool V,.int .i64 C,.string D,.string X,sa]] W (λe w'=>e = .returned (.iface _ _)/\Below W.heap.size W w') from i.o W));try simp only[h_.num,h_.text,h_.extra]at i
 have ab:=or_ (.int .i64 C);have aa:=m0_ (.int .i64 C);have a9:=m1_ (.string D);have ac:=le_ (.string D);have p0:k.cell? ⟨z+1,0,none⟩=some (.int .i64 _):=cell_of_heap g.o.1 0;have p1:k.cell? ⟨z+1,1,none⟩=some (.bool V):=cell_of_heap g.o.1 1;have p2:k.cell? ⟨z+1,2,none⟩=some (.int .i64 C):=cell_of_heap g.o.1 2;have p3:k.cell? ⟨z+1,3,none⟩=some (.string D):=cell_of_heap g.o.1 3;have p4:k.cell? ⟨z+1,4,none⟩=some (.string X):=cell_of_heap g.o.1 4;have Y:k.cell? ⟨z+1,5,none⟩=some sa:=cell_of_heap g.o.1 5;go_wp2_with fail;refine (i.o _).mono ?_;rintro e w5 ⟨rfl,G⟩;clear i p0 p1 p2 p3 p4 Y;have R:=q_ (HG.o.trans (G.mono HG.o.size));have d:=q_ (show w5.heap[z+1]?=some (.cells #[.int .i64 _,.bool V,.int .i64 C,.string D,.string X,sa] 39 (0,0))/\w5.heap[z+2]?=some (.cells #[.int .i64 _,.bool b2,.int .i64 n2,.string t2,.string x2,sb] 39 (0,0)) from ⟨(G.block _ (b_ g.o.1)).trans g.o.1,(G.block _ (b_ g.o.2)).trans g.o.2⟩);clear G g HG x HB;have p0:w5.cell? ⟨z+1,0,none⟩=some (.int .i64 _):=cell_of_heap d.o.1 0;have p1:w5.cell? ⟨z+1,1,none⟩=some (.bool V):=cell_of_heap d.o.1 1;have p2:w5.cell? ⟨z+1,2,none⟩=some (.int .i64 C):=cell_of_heap d.o.1 2;have p3:w5.cell? ⟨z+1,3,none⟩=some (.string D):=cell_of_heap d.o.1 3;have p4:w5.cell? ⟨z+1,4,none⟩=some (.string X):=cell_of_heap d.o.1 4;have Y:w5.cell? ⟨z+1,5,none⟩=some sa:=cell_of_heap d.o.1 5;have q0:w5.cell? ⟨z+2,0,none⟩=some (.int .i64 _):=cell_of_heap d.o.2 0;have q1:w5.cell? ⟨z+2,1,none⟩=some (.bool b2):=cell_of_heap d.o.2 1;have q2:w5.cell? ⟨z+2,2,none⟩=some (.int .i64 n2):=cell_of_heap d.o.2 2;have q3:w5.cell? ⟨z+2,3,none⟩=some (.string t2):=cell_of_heap d.o.2 3;have q4:w5.cell? ⟨z+2,4,none⟩=some (.string x2):=cell_of_heap d.o.2 4;have q5:w5.cell? ⟨z+2,5,none⟩=some sb:=cell_of_heap d.o.2 5;go_wp2_with fail;refine (n.o _ R.o).mono ?_;rintro e w6 ⟨rfl,I⟩;have a3:=q_ (R.o.trans (I.mono R.o.size));have j:=q_ (And.intro ((I.block _ (b_ d.o.1)).trans d.o.1) ((I.block _ (b_ d.o.2)).trans d.o.2));clear I p0 p1 p2 p3 p4 Y q0 q1 q2 q3 q4 q5 n;by_cases Z:c=0
 ·subst Z;have hv:=q_ (L.o.trans (Z_ _));clear L;have p0:w6.cell? ⟨z+1,0,none⟩=some (.int .i64 _):=cell_of_heap j.o.1 0;have p1:w6.cell? ⟨z+1,1,none⟩=some (.bool V):=cell_of_heap j.o.1 1;have p2:w6.cell? ⟨z+1,2,none⟩=some (.int .i64 C):=cell_of_heap j.o.1 2;have p3:w6.cell? ⟨z+1,3,none⟩=some (.string D):=cell_of_heap j.o.1 3;have p4:w6.cell? ⟨z+1,4,none⟩=some (.string X):=cell_of_heap j.o.1 4;have Y:w6.cell? ⟨z+1,5,none⟩=some sa:=cell_of_heap j.o.1 5;have q0:w6.cell? ⟨z+2,0,none⟩=some (.int .i64 _):=cell_of_heap j.o.2 0;have q1:w6.cell? ⟨z+2,1,none⟩=some (.bool b2):=cell_of_heap j.o.2 1;have q2:w6.cell? ⟨z+2,2,none⟩=some (.int .i64 n2):=cell_of_heap j.o.2 2;have q3:w6.cell? ⟨z+2,3,none⟩=some (.string t2):=cell_of_heap j.o.2 3;have q4:w6.cell? ⟨z+2,4,none⟩=some (.string x2):=cell_of_heap j.o.2 4;have q5:w6.cell? ⟨z+2,5,none⟩=some sb:=cell_of_heap j.o.2 5;go_wp2_with fail;refine Calls.mono (by first | exact a6.o _ (by decide) | exact a5.o _ (by decide)) ?_;rintro e w7 ⟨rfl,a8⟩;subst w7;go_wp2_with fail;go_ret;have:=HE.o _ a3.o;rwa [hv.o]at this
 ·have e1:(c != 0)=true:=bne_iff_ne.2 Z;have hv:=q_ (show v=c from L.o.trans (cu_ Z));clear Z L;go_wp2_with fail;go_ret;have:=HE.o _ a3.o;rwa [hv.o]at this)
theorem At_ (a b:h_) (sa sb:Value) (w:World) (X:a.kind=1) (hb:b.kind=1) :
    Calls Tryz.prog 68 #[.int .i64 1,.agg (c_ a sa),.agg (c_ b sb)] w (d4_ a b w):=by
 have r:=q_ (λW:World=>c4_ a sa W);have t:=q_ (λW:World=>c4_ b sb W);have M:=q_ (λW:World=>ds_ (K_ a.kind) (K_ b.kind) W);have HC:=q_ (show ce_ (K_ a.kind) (K_ b.kind)=0 from by rw[X,hb];decide);have HV:=q_ (show G_ a b=ce_ (if a.truth=true then 1 else 0) (if b.truth=true then 1 else 0) from Af_ X hb)
 have y:=q_ (λW:World=>on_ a.truth W);have x:=q_ (λW:World=>on_ b.truth W);obtain⟨u1,N⟩:=a_ (if a.truth=true then (1:Int) else 0)
 obtain⟨u2,L⟩:=a_ (if b.truth=true then (1:Int) else 0)
 rw[N.o,L.o]at HV;rw[N.o]at y;rw[L.o]at x;have R:=q_ (λW:World=>ds_ u1 u2 W);clear N L;unfold oo_ at r t;obtain⟨v,Hv⟩:=a_ (G_ a b);have HE:=q_ (show ∀w',Below w.heap.size w w'->d4_ a b w (.returned (.int .i64 v)) w' from λw' hb=>⟨by rw[Hv.o],hb⟩);rw[Hv.o]at HV;clear Hv;obtain⟨r1,H1⟩:=a_ (K_ a.kind);obtain⟨r2,H2⟩:=a_ (K_ b.kind);rw[H1.o]at r;rw[H2.o]at t;rw[H1.o,H2.o]at M HC;clear H1 H2;obtain⟨A,B⟩:=H_ a sa;obtain⟨u,D⟩:=H_ b sb;rw[B.o]at r ⊢;rw[D.o]at t ⊢;have Q1:=q_ B.size;have Q2:=q_ D.size;obtain⟨z,Y⟩:=a_ w.heap.size;obtain⟨l,m⟩:=a_ (((w.alloc (.cells #[.int .i64 1] 3)).alloc (.cells A 39)).alloc (.cells u 39));have HB:=q_ (show Below w.heap.size w l from by rw[<-m.o];exact (L_ w _ _).alloc (by simp;omega) _);have G:=q_ (show l.heap[z]?=some (.cells #[.int .i64 1] 3 (0,0)) from by rw[<-m.o,<-Y.o];exact f2_ w _ _ _);have I:=q_ (show l.heap[z+1]?=some (.cells A 39 (0,0)) from by rw[<-m.o,<-Y.o];exact f3_ w _ _ _);have F:=q_ (show l.heap[z+2]?=some (.cells u 39 (0,0)) from by rw[<-m.o,<-Y.o];exact f4_ w _ _ _);go_enter Tryz.func68,Tryz.ntmps68
 go_upto_region 1 with fail;rw[m.o,Y.o];clear m;have s1:=q_ (show l.drew.heap[z]?=some (.cells #[.int .i64 1] 3 (0,0))/\l.drew.heap[z+1]?=some (.cells A 39 (0,0))/\l.drew.heap[z+2]?=some (.cells u 39 (0,0)) from ⟨G.o,I.o,F.o⟩);refine wp_region_held_drew (S:=λE=>E.heap[z]?=some (.cells #[.int .i64 1] 3 (0,0))/\E.heap[z+1]?=some (.cells A 39 (0,0))/\E.heap[z+2]?=some (.cells u 39 (0,0))) (by kernel_rfl) s1.o λd=>?_;refine V_.o ?_;refine J_ 0 13 (.int .i64 1) d (λw g=>?_) λd=>?_
 ·have p:=cell_of_heap g.1 0;unfold o_;go_simp
 (try simp only[Act.put,aT,aZ,aS]);refine J_ 1 14 (.agg A) d (λw g=>?_) λd=>?_
 ·exact k_ (ap_ g.2.1 39 _ Tryz.underlying39 rfl (by rw[Q1.o];kernel_rfl))
 (try simp only[Act.put,aT,aZ,aS]);refine J_ 3 16 (.int .i64 1) d (λw g=>?_) λd=>?_
 ·have p:=cell_of_heap g.1 0;unfold o_;go_simp
 (try simp only[Act.put,aT,aZ,aS]);refine J_ 4 17 (.agg u) d (λw g=>?_) λd=>?_
 ·exact k_ (ap_ g.2.2 39 _ Tryz.underlying39 rfl (by rw[Q2.o];kernel_rfl))
 (try simp only[Act.put,aT,aZ,aS]);refine tkC 2 λK f=>?_;change Oper.wp _ ⟨some 15,_,_,_,_,_⟩ _ _ _ _;go_simp;refine (r.o l.drew).mono ?_;rintro e w2 ⟨rfl,a1⟩;have n:=q_ (show Below l.heap.size l w2 from aa_ a1);have a0:=q_ (show w2.heap[z]?=some (.cells #[.int .i64 1] 3 (0,0))/\w2.heap[z+1]?=some (.cells A 39 (0,0))/\w2.heap[z+2]?=some (.cells u 39 (0,0)) from ⟨(n.o.block z (b_ G.o)).trans G.o,(n.o.block (z+1) (b_ I.o)).trans I.o,(n.o.block (z+2) (b_ F.o)).trans F.o⟩);clear a1;dsimp only;refine f.out _ _ a0.o λd=>?_;clear f K;(try simp only[Act.put,aT,aZ,aS]);refine tkC 5 λK f=>?_;change Oper.wp _ ⟨some 18,_,_,_,_,_⟩ _ _ _ _;go_simp;refine (t.o w2).mono ?_;rintro e j ⟨rfl,a3⟩;have s:=q_ (n.o.trans (a3.mono n.o.size));have q:=q_ (show j.heap[z]?=some (.cells #[.int .i64 1] 3 (0,0))/\j.heap[z+1]?=some (.cells A 39 (0,0))/\j.heap[z+2]?=some (.cells u 39 (0,0)) from ⟨(s.o.block z (b_ G.o)).trans G.o,(s.o.block (z+1) (b_ I.o)).trans I.o,(s.o.block (z+2) (b_ F.o)).trans F.o⟩);clear a3;dsimp only;refine f.out _ _ q.o λd=>?_;clear f K;(try simp only[Act.put,aT,aZ,aS]);refine tkC 6 λK f=>?_;change Oper.wp _ ⟨some 19,_,_,_,_,_⟩ _ _ _ _;go_simp;refine (M.o j).mono ?_;rintro e w4 ⟨rfl,a9⟩;subst w4;dsimp only;refine f.out _ _ q.o λd=>?_;clear f K;(try simp only[Act.put,aT,aZ,aS]);rw[HC.o];refine v_ 7 7 (.int .i64 0) d λd=>?_;(try simp only[Act.put,aT,aZ,aS]);refine⟨wpAnyH_done (by kernel_rfl) ?_ _⟩;clear d;have HG:=q_ (HB.o.trans (s.o.mono HB.o.size));clear r t M G I F n a0 s1;have h:=q_ (show j.heap[z+1]?=some (.cells (c_ a sa) 39 (0,0))/\j.heap[z+2]?=some (.cells (c_ b sb) 39 (0,0)) from by rw[B.o,D.o];exact⟨q.o.2.1,q.o.2.2⟩);clear q Q1 Q2 B D;have i:=q_ (λW:World=>g8_ a sa W);unfold iu_ at i
 cases a with
 | mk k1 k J O P l1=>
 cases b with
 | mk k2 V n2 t2 x2 l2=>
 unfold c_ at h i ;simp only[h_.kind,h_.truth,h_.num,h_.text,h_.extra]at h i y x X hb;subst X;subst hb;have i:=q_ (λW:World=>(show Calls Tryz.prog 128 #[.agg #[.int .i64 1,.bool k,.int .i64 J,.string O,.string P,sa]] W (λe w'=>e = .returned (.iface 194 (.bool k))/\Below W.heap.size W w') from i.o W));try simp only[h_.num,h_.text,h_.extra]at i
 have a5:=lc_ (.bool k);have a4:=j3_ (.bool k);have a7:=mz_ (.bool k);have a6:=ld_ (.bool k);have U:=i9_ (.bool k);have p0:j.cell? ⟨z+1,0,none⟩=some (.int .i64 1):=cell_of_heap h.o.1 0;have p1:j.cell? ⟨z+1,1,none⟩=some (.bool k):=cell_of_heap h.o.1 1;have p2:j.cell? ⟨z+1,2,none⟩=some (.int .i64 J):=cell_of_heap h.o.1 2;have p3:j.cell? ⟨z+1,3,none⟩=some (.string O):=cell_of_heap h.o.1 3;have p4:j.cell? ⟨z+1,4,none⟩=some (.string P):=cell_of_heap h.o.1 4;have p5:j.cell? ⟨z+1,5,none⟩=some sa:=cell_of_heap h.o.1 5;go_wp2_with fail;refine (i.o _).mono ?_;rintro e w5 ⟨rfl,C⟩;clear i p0 p1 p2 p3 p4 p5;have a8:=q_ (HG.o.trans (C.mono HG.o.size));have HT:=q_ (show w5.heap[z+1]?=some (.cells #[.int .i64 1,.bool k,.int .i64 J,.string O,.string P,sa] 39 (0,0))/\w5.heap[z+2]?=some (.cells #[.int .i64 1,.bool V,.int .i64 n2,.string t2,.string x2,sb] 39 (0,0)) from ⟨(C.block _ (b_ h.o.1)).trans h.o.1,(C.block _ (b_ h.o.2)).trans h.o.2⟩);clear C h HG s HB;have R:=q_ (λW:World=>(show Calls Tryz.prog 126 #[.int .i64 u1,.int .i64 u2] W (λe w'=>e = .returned (.int .i64 v)/\w'=W) from by rw[HV.o];exact R.o W));go_upto_region 21 with fail;have Z:=q_ (show w5.drew.heap[z+1]?=some (.cells #[.int .i64 1,.bool k,.int .i64 J,.string O,.string P,sa] 39 (0,0))/\w5.drew.heap[z+2]?=some (.cells #[.int .i64 1,.bool V,.int .i64 n2,.string t2,.string x2,sb] 39 (0,0)) from HT.o);refine wp_region_held_drew (S:=λE=>E.heap[z+1]?=some (.cells #[.int .i64 1,.bool k,.int .i64 J,.string O,.string P,sa] 39 (0,0))/\E.heap[z+2]?=some (.cells #[.int .i64 1,.bool V,.int .i64 n2,.string t2,.string x2,sb] 39 (0,0))) (by kernel_rfl) Z.o λd=>?_;refine V_.o ?_;refine v_ 0 75 (.pointer (some ⟨z+1,1,none⟩)) d λd=>?_;(try simp only[Act.put,aT,aZ,aS]);refine J_ 1 76 (.bool k) d (λw g=>?_) λd=>?_
 ·have p:=cell_of_heap g.1 1;unfold o_;go_simp
 (try simp only[Act.put,aT,aZ,aS]);refine v_ 3 78 (.pointer (some ⟨z+2,1,none⟩)) d λd=>?_;(try simp only[Act.put,aT,aZ,aS]);refine J_ 4 79 (.bool V) d (λw g=>?_) λd=>?_
 ·have p:=cell_of_heap g.2 1;unfold o_;go_simp
 (try simp only[Act.put,aT,aZ,aS]);refine tkC 2 λK f=>?_;change Oper.wp _ ⟨some 77,_,_,_,_,_⟩ _ _ _ _;go_simp;refine (y.o _).mono ?_;rintro e w6 ⟨rfl,a2⟩;subst w6;dsimp only;refine f.out _ _ Z.o λd=>?_;clear f K;(try simp only[Act.put,aT,aZ,aS]);refine tkC 5 λK f=>?_;change Oper.wp _ ⟨some 80,_,_,_,_,_⟩ _ _ _ _;go_simp;refine (x.o _).mono ?_;rintro e w6 ⟨rfl,a2⟩;subst w6;dsimp only;refine f.out _ _ Z.o λd=>?_;clear f K;(try simp only[Act.put,aT,aZ,aS]);refine tkC 6 λK f=>?_;change Oper.wp _ ⟨some 81,_,_,_,_,_⟩ _ _ _ _;go_simp;refine (R.o _).mono ?_;rintro e w6 ⟨rfl,a2⟩;subst w6;dsimp only;refine f.out _ _ Z.o λd=>?_;clear f K;(try simp only[Act.put,aT,aZ,aS]);refine v_ 7 6 (.int .i64 v) d λd=>?_;(try simp only[Act.put,aT,aZ,aS]);refine⟨wpAnyH_done (by kernel_rfl) ?_ _⟩;clear d;go_wp2_with fail;go_ret;exact HE.o _ a8.o.drew
theorem Au_ (a b:h_) (sa sb:Value) (w:World) (l:a.kind=4\/a.kind=8\/a.kind=9\/a.kind=10) (hb:b.kind=a.kind) :
    Calls Tryz.prog 68 #[.int .i64 1,.agg (c_ a sa),.agg (c_ b sb)] w (d4_ a b w):=by
 rcases l with l | l | l | l<;>(
 rw[l]at hb;have t:=q_ (λW:World=>c4_ a sa W);have x:=q_ (λW:World=>c4_ b sb W);have L:=q_ (λW:World=>ds_ (K_ a.kind) (K_ b.kind) W);have HC:=q_ (show ce_ (K_ a.kind) (K_ b.kind)=0 from by rw[l,hb];decide);have HV:=q_ (show G_ a b=a6_ (ez_ a.text.data.toList b.text.data.toList) (ez_ a.extra.data.toList b.extra.data.toList) from Ag_ (by rw[l,hb]) (by rw[l];decide) (by omega));have N:=q_ (λW:World=>i8_ a.text b.text W);have I:=q_ (λW:World=>i8_ a.extra b.extra W);obtain⟨V,M⟩:=a_ (ez_ a.text.data.toList b.text.data.toList);obtain⟨U,J⟩:=a_ (ez_ a.extra.data.toList b.extra.data.toList);rw[M.o,J.o]at HV;rw[M.o]at N;rw[J.o]at I;clear M J;unfold oo_ at t x;obtain⟨v,Hv⟩:=a_ (G_ a b);have HE:=q_ (show ∀w',Below w.heap.size w w'->d4_ a b w (.returned (.int .i64 v)) w' from λw' hb=>⟨by rw[Hv.o],hb⟩);rw[Hv.o]at HV;clear Hv;obtain⟨r1,H1⟩:=a_ (K_ a.kind);obtain⟨r2,H2⟩:=a_ (K_ b.kind);rw[H1.o]at t;rw[H2.o]at x;rw[H1.o,H2.o]at L HC;clear H1 H2;obtain⟨A,B⟩:=H_ a sa;obtain⟨y,D⟩:=H_ b sb;rw[B.o]at t ⊢;rw[D.o]at x ⊢;have Q1:=q_ B.size;have Q2:=q_ D.size;obtain⟨z,R⟩:=a_ w.heap.size;obtain⟨m,n⟩:=a_ (((w.alloc (.cells #[.int .i64 1] 3)).alloc (.cells A 39)).alloc (.cells y 39));have HB:=q_ (show Below w.heap.size w m from by rw[<-n.o];exact (L_ w _ _).alloc (by simp;omega) _);have F:=q_ (show m.heap[z]?=some (.cells #[.int .i64 1] 3 (0,0)) from by rw[<-n.o,<-R.o];exact f2_ w _ _ _);have G:=q_ (show m.heap[z+1]?=some (.cells A 39 (0,0)) from by rw[<-n.o,<-R.o];exact f3_ w _ _ _);have E:=q_ (show m.heap[z+2]?=some (.cells y 39 (0,0)) from by rw[<-n.o,<-R.o];exact f4_ w _ _ _);go_enter Tryz.func68,Tryz.ntmps68
 go_upto_region 1 with fail;rw[n.o,R.o];clear n;have s1:=q_ (show m.drew.heap[z]?=some (.cells #[.int .i64 1] 3 (0,0))/\m.drew.heap[z+1]?=some (.cells A 39 (0,0))/\m.drew.heap[z+2]?=some (.cells y 39 (0,0)) from ⟨F.o,G.o,E.o⟩);refine wp_region_held_drew (S:=λW'=>W'.heap[z]?=some (.cells #[.int .i64 1] 3 (0,0))/\W'.heap[z+1]?=some (.cells A 39 (0,0))/\W'.heap[z+2]?=some (.cells y 39 (0,0))) (by kernel_rfl) s1.o λd=>?_;refine V_.o ?_;refine J_ 0 13 (.int .i64 1) d (λw f=>?_) λd=>?_
 ·have p:=cell_of_heap f.1 0;unfold o_;go_simp
 (try simp only[Act.put,aT,aZ,aS]);refine J_ 1 14 (.agg A) d (λw f=>?_) λd=>?_
 ·exact k_ (ap_ f.2.1 39 _ Tryz.underlying39 rfl (by rw[Q1.o];kernel_rfl))
 (try simp only[Act.put,aT,aZ,aS]);refine J_ 3 16 (.int .i64 1) d (λw f=>?_) λd=>?_
 ·have p:=cell_of_heap f.1 0;unfold o_;go_simp
 (try simp only[Act.put,aT,aZ,aS]);refine J_ 4 17 (.agg y) d (λw f=>?_) λd=>?_
 ·exact k_ (ap_ f.2.2 39 _ Tryz.underlying39 rfl (by rw[Q2.o];kernel_rfl))
 (try simp only[Act.put,aT,aZ,aS]);refine tkC 2 λK g=>?_;change Oper.wp _ ⟨some 15,_,_,_,_,_⟩ _ _ _ _;go_simp;refine (t.o m.drew).mono ?_;rintro e w2 ⟨rfl,a0⟩;have q:=q_ (show Below m.heap.size m w2 from aa_ a0);have X:=q_ (show w2.heap[z]?=some (.cells #[.int .i64 1] 3 (0,0))/\w2.heap[z+1]?=some (.cells A 39 (0,0))/\w2.heap[z+2]?=some (.cells y 39 (0,0)) from ⟨(q.o.block z (b_ F.o)).trans F.o,(q.o.block (z+1) (b_ G.o)).trans G.o,(q.o.block (z+2) (b_ E.o)).trans E.o⟩);clear a0;dsimp only;refine g.out _ _ X.o λd=>?_;clear g K;(try simp only[Act.put,aT,aZ,aS]);refine tkC 5 λK g=>?_;change Oper.wp _ ⟨some 18,_,_,_,_,_⟩ _ _ _ _;go_simp;refine (x.o w2).mono ?_;rintro e k ⟨rfl,a2⟩;have u:=q_ (q.o.trans (a2.mono q.o.size));have s:=q_ (show k.heap[z]?=some (.cells #[.int .i64 1] 3 (0,0))/\k.heap[z+1]?=some (.cells A 39 (0,0))/\k.heap[z+2]?=some (.cells y 39 (0,0)) from ⟨(u.o.block z (b_ F.o)).trans F.o,(u.o.block (z+1) (b_ G.o)).trans G.o,(u.o.block (z+2) (b_ E.o)).trans E.o⟩);clear a2;dsimp only;refine g.out _ _ s.o λd=>?_;clear g K;(try simp only[Act.put,aT,aZ,aS]);refine tkC 6 λK g=>?_;change Oper.wp _ ⟨some 19,_,_,_,_,_⟩ _ _ _ _;go_simp;refine (L.o k).mono ?_;rintro e w4 ⟨rfl,ad⟩;subst w4;dsimp only;refine g.out _ _ s.o λd=>?_;clear g K;(try simp only[Act.put,aT,aZ,aS]);rw[HC.o];refine v_ 7 7 (.int .i64 0) d λd=>?_;(try simp only[Act.put,aT,aZ,aS]);refine⟨wpAnyH_done (by kernel_rfl) ?_ _⟩;clear d;have HG:=q_ (HB.o.trans (u.o.mono HB.o.size));clear t x L F G E q X s1;have i:=q_ (show k.heap[z+1]?=some (.cells (c_ a sa) 39 (0,0))/\k.heap[z+2]?=some (.cells (c_ b sb) 39 (0,0)) from by rw[B.o,D.o];exact⟨s.o.2.1,s.o.2.2⟩);clear s Q1 Q2 B D;have j:=q_ (λW:World=>g8_ a sa W);unfold iu_ at j
 cases a with
 | mk k1 b1 n1 h r l1=>
 cases b with
 | mk k2 b2 n2 t2 x2 l2=>
 unfold c_ at i j ;simp only[h_.kind,h_.truth,h_.num,h_.text,h_.extra]at i j N I l hb;subst l;subst hb;have j:=q_ (λW:World=>(show Calls Tryz.prog 128 #[.agg #[.int .i64 _,.bool b1,.int .i64 n1,.string h,.string r,sa]] W (λe w'=>e = .returned (.iface _ _)/\Below W.heap.size W w') from j.o W));try simp only[h_.num,h_.text,h_.extra]at j
 have a9:=os_ (.string h);have a8:=m2_ (.string h);have a5:=qc_ (.string h);have ac:=ot_ (.string h);have aa:=lf_ (.string h);have ab:=lg_ (.agg #[.string h,.string r]);have ae:=j4_ (.agg #[.string h,.string r]);have af:=m3_ (.agg #[.string h,.string r]);have a7:=lh_ (.agg #[.string h,.string r]);have a6:=ja_ (.agg #[.string h,.string r]);have p0:k.cell? ⟨z+1,0,none⟩=some (.int .i64 _):=cell_of_heap i.o.1 0;have p1:k.cell? ⟨z+1,1,none⟩=some (.bool b1):=cell_of_heap i.o.1 1;have p2:k.cell? ⟨z+1,2,none⟩=some (.int .i64 n1):=cell_of_heap i.o.1 2;have p3:k.cell? ⟨z+1,3,none⟩=some (.string h):=cell_of_heap i.o.1 3;have p4:k.cell? ⟨z+1,4,none⟩=some (.string r):=cell_of_heap i.o.1 4;have p5:k.cell? ⟨z+1,5,none⟩=some sa:=cell_of_heap i.o.1 5;go_wp2_with fail;refine (j.o _).mono ?_;rintro e w5 ⟨rfl,C⟩;clear j p0 p1 p2 p3 p4 p5;have Z:=q_ (HG.o.trans (C.mono HG.o.size));have O:=q_ (show w5.heap[z+1]?=some (.cells #[.int .i64 _,.bool b1,.int .i64 n1,.string h,.string r,sa] 39 (0,0))/\w5.heap[z+2]?=some (.cells #[.int .i64 _,.bool b2,.int .i64 n2,.string t2,.string x2,sb] 39 (0,0)) from ⟨(C.block _ (b_ i.o.1)).trans i.o.1,(C.block _ (b_ i.o.2)).trans i.o.2⟩);clear C i HG u HB;go_upto_region 22 with fail;have P:xh_ z _ _ w5.drew:=O.o;refine wp_region_held_drew (S:=xh_ z _ _) (by kernel_rfl) P λd=>?_;refine V_.o ?_;have P:=q_ P;refine v_ 0 82 (.pointer (some ⟨z+1,3,none⟩)) d λd=>?_;(try simp only[Act.put,aT,aZ,aS]);refine J_ 1 83 (.string h) d (λw f=>?_) λd=>?_
 ·have p:=cell_of_heap f.1 3;unfold o_;go_simp
 (try simp only[Act.put,aT,aZ,aS]);refine v_ 2 84 (.pointer (some ⟨z+2,3,none⟩)) d λd=>?_;(try simp only[Act.put,aT,aZ,aS]);refine J_ 3 85 (.string t2) d (λw f=>?_) λd=>?_
 ·have p:=cell_of_heap f.2 3;unfold o_;go_simp
 (try simp only[Act.put,aT,aZ,aS]);refine v_ 5 87 (.pointer (some ⟨z+1,4,none⟩)) d λd=>?_;(try simp only[Act.put,aT,aZ,aS]);refine J_ 6 88 (.string r) d (λw f=>?_) λd=>?_
 ·have p:=cell_of_heap f.1 4;unfold o_;go_simp
 (try simp only[Act.put,aT,aZ,aS]);refine v_ 7 89 (.pointer (some ⟨z+2,4,none⟩)) d λd=>?_;(try simp only[Act.put,aT,aZ,aS]);refine J_ 8 90 (.string x2) d (λw f=>?_) λd=>?_
 ·have p:=cell_of_heap f.2 4;unfold o_;go_simp
 (try simp only[Act.put,aT,aZ,aS]);refine tkC 4 (λK g=>?_);change Oper.wp _ ⟨some 86,_,_,_,_,_⟩ _ _ _ _;go_simp;refine (N.o _).mono ?_;rintro e w6 ⟨rfl,a1⟩;subst w6;dsimp only;refine g.out _ _ P.o (λd=>?_);clear g K;(try simp only[Act.put,aT,aZ,aS]);refine tkC 9 (λK g=>?_);change Oper.wp _ ⟨some 91,_,_,_,_,_⟩ _ _ _ _;go_simp;refine (I.o _).mono ?_;rintro e w6 ⟨rfl,a1⟩;subst w6;dsimp only;refine g.out _ _ P.o (λd=>?_);clear g K;(try simp only[Act.put,aT,aZ,aS]);have Y:=q_ (show xh_ z _ _ (w5.drew.alloc (.cells #[.int .i64 V,.int .i64 U] 3)) from And.intro ((Below.heap_alloc _ _ _ (b_ O.o.1)).trans O.o.1) ((Below.heap_alloc _ _ _ (b_ O.o.2)).trans O.o.2));have a4:=q_ ((Z.o.drew).alloc (Nat.le_trans Z.o.size (Nat.le_refl _)) (.cells #[.int .i64 V,.int .i64 U] 3));have a3:=q_ (Ij_ V U w5.heap.size 2 (w5.drew.alloc (.cells #[.int .i64 V,.int .i64 U] 3)) (cell_of_heap (heap_alloc_new w5.drew _) 0) (cell_of_heap (heap_alloc_new w5.drew _) 1));rw[<-HV.o]at a3;refine tkC 10 (λK g=>?_);change Oper.wp _ ⟨some 92,_,_,_,_,_⟩ _ _ _ _;go_simp;refine g.out _ _ Y.o (λd=>?_);clear g K;(try simp only[Act.put,aT,aZ,aS]);refine tkC 11 (λK g=>?_);change Oper.wp _ ⟨some 93,_,_,_,_,_⟩ _ _ _ _;go_simp;refine (a3.o).mono ?_;rintro e w6 ⟨rfl,a1⟩;subst w6;dsimp only;refine g.out _ _ Y.o (λd=>?_);clear g K;(try simp only[Act.put,aT,aZ,aS]);refine v_ 12 6 (.int .i64 v) d (λd=>?_);(try simp only[Act.put,aT,aZ,aS]);refine⟨wpAnyH_done (by kernel_rfl) ?_ _⟩;clear d;go_wp2_with fail;go_ret;exact HE.o _ a4.o)
theorem uu_ (a b:h_) (sa sb:Value) (w:World) (k:a.kind=1\/a.kind=2\/a.kind=3\/a.kind=4\/a.kind=8\/a.kind=9\/a.kind=10) (i:ag_ a) (j:ag_ b) (f:F_ w) (d:as_ w) :
    Calls Tryz.prog 68 #[.int .i64 1,.agg (c_ a sa),.agg (c_ b sb)] w (d4_ a b w):=by
 by_cases g:K_ a.kind=K_ b.kind
 ·rcases lb_ g with e | ⟨l,m⟩ | e
  ·rcases k with h | h | h | h | h | h | h
   ·exact At_ a b sa sb w h (e▸h)
   ·exact ou_ a b sa sb w (.inl h) (.inl (e▸h)) i j f d
   ·exact ou_ a b sa sb w (.inr h) (.inr (e▸h)) i j f d
   all_goals exact Au_ a b sa sb w (by omega) e.symm
  ·exact ou_ a b sa sb w l m i j f d
  ·exfalso;have h2:=e.1;rcases k with h | h | h | h | h | h | h<;>(rw[h]at h2;revert h2;decide)
 ·exact Aq_ a b sa sb w g
end
section
open Go
theorem Av_ {i : Type} (c:i -> Int) (l:List i) (j:l.Pairwise λx y=>c x<=c y):l.countP (λx=>!decide (0<=c x))<=l.countP (λx=>!decide (0<c x))/\l.countP (λx=>!decide (0<c x))<=l.length /\
    (l.take (l.countP λx=>!decide (0<c x))).drop (l.countP λx=>!decide (0<=c x))=l.filter λx=>decide (c x=0):=by
 induction l with
 | nil=>exact⟨Nat.le_refl _,Nat.le_refl _,rfl⟩
 | cons x r k=>
  obtain⟨f,m⟩:=List.pairwise_cons.1 j;obtain⟨n,o,g⟩:=k m;rcases Int.lt_trichotomy (c x) 0 with h | h | h
  ·have b:(!decide (0<c x))=true:=by simp;omega
   have d:(!decide (0<=c x))=true:=by simp;omega
   rw[List.countP_cons_of_pos (p:=λx=>!decide (0<c x)) (by exact b),List.countP_cons_of_pos (p:=λx=>!decide (0<=c x)) (by exact d),List.take_succ_cons,List.drop_succ_cons,g,List.filter_cons_of_neg (by simp;omega)];exact⟨by omega,by simp;omega,rfl⟩
  ·have b:(!decide (0<c x))=true:=by simp;omega
   have d:(!decide (0<=c x))=false:=by simp;omega
   have h0:r.countP (λy=>!decide (0<=c y))=0:=by rw[List.countP_eq_zero];intro y a;have:=f y a;simp;omega
   rw[h0]at g;rw[List.countP_cons_of_pos (p:=λx=>!decide (0<c x)) (by exact b),List.countP_cons_of_neg (p:=λx=>!decide (0<=c x)) (by rw[d];exact Bool.false_ne_true),h0,List.take_succ_cons,List.filter_cons_of_pos (by simp;omega),<-g];exact⟨by omega,by simp;omega,rfl⟩
  ·have b:(!decide (0<c x))=false:=by simp;omega
   have d:(!decide (0<=c x))=false:=by simp;omega
   have h0:r.countP (λy=>!decide (0<=c y))=0:=by rw[List.countP_eq_zero];intro y a;have:=f y a;simp;omega
   have h1:r.countP (λy=>!decide (0<c y))=0:=by rw[List.countP_eq_zero];intro y a;have:=f y a;simp;omega
   rw[List.countP_cons_of_neg (p:=λx=>!decide (0<c x)) (by rw[b];exact Bool.false_ne_true),List.countP_cons_of_neg (p:=λx=>!decide (0<=c x)) (by rw[d];exact Bool.false_ne_true),h0,h1];refine⟨Nat.le_refl _,Nat.zero_le _,?_⟩;symm
   rw[List.take_zero,List.drop_zero,List.filter_eq_nil_iff];intro y a;rcases List.mem_cons.1 a with e | e
   ·subst e;simp;omega
   ·have:=f y e;simp;omega
theorem j5_ {b : Type} (f:b -> Bool) (l:List b) (g:Nat->Bool) (e:∀i x,l[i]?=some x->g i=f x):(List.range l.length).countP g=l.countP f:=by
 have h:(List.range l.length).map g=l.map f:=by
  apply List.ext_getElem?;intro i;rw[List.getElem?_map,List.getElem?_map];rcases Nat.lt_or_ge i l.length with h | h
  ·rw[List.getElem?_range h,List.getElem?_eq_getElem h];exact congrArg some (e i _ (List.getElem?_eq_getElem h))
  ·rw[List.getElem?_eq_none (by simpa using h),List.getElem?_eq_none h];rfl
 have a:=List.countP_map (p:=id) (f:=g) (l:=List.range l.length);have d:=List.countP_map (p:=id) (f:=f) (l:=l);rw[h]at a;exact a.symm.trans d
structure li_ (w:Way) (T:List d_) (ix:List Nat):Prop where
 perm:ix.Perm (List.range T.length)
 rise:ix.Pairwise λa b=>∀s t,T[a]?=some s->T[b]?=some t->w_ w s t<0
theorem li_.lt {w:Way} {T:List d_} {a:List Nat} (h:li_ w T a) {n:Nat} (b:n∈a):n<T.length:=List.mem_range.1 (h.perm.mem_iff.1 b)
theorem li_.len {w:Way} {T:List d_} {a:List Nat} (h:li_ w T a):a.length=T.length:=by rw[h.perm.length_eq,List.length_range]
theorem li_.nodup {w:Way} {T:List d_} {a:List Nat} (h:li_ w T a):a.Nodup:=h.perm.nodup_iff.2 List.nodup_range
theorem Lw_ {w:Way} (o:w.Ok) {T:List d_} (i:∀t,t∈T->bn_ t) (l:T.Nodup) {f:List Nat} (k:f.Perm (List.range T.length)) (e:f.Pairwise λa b=>∀s t,T[a]?=some s->T[b]?=some t->¬w_ w t s<0):li_ w T f:=by
 refine⟨k,?_⟩;have n:f.Nodup:=k.nodup_iff.2 List.nodup_range;refine (e.and n).imp fun {a b} h s t e ht=>?_;have h1:=h.1 s t e ht;have h2:=(a7_ w).anti s t;rcases (a7_ w).val s t with g | g | g
 ·omega
 ·have:=hl_ o (i s (List.mem_of_getElem? e)) (i t (List.mem_of_getElem? ht)) g;subst this;obtain⟨la,m⟩:=List.getElem?_eq_some_iff.1 e;obtain⟨lb,j⟩:=List.getElem?_eq_some_iff.1 ht;exfalso;rcases Nat.lt_or_gt_of_ne h.2 with d | d
  ·exact List.pairwise_iff_getElem.1 l a b la lb d (m.trans j.symm)
  ·exact List.pairwise_iff_getElem.1 l b a lb la d (j.trans m.symm)
 ·omega
open Classical in
noncomputable def bk_ (p t:d_):Bool:=
 decide (∀i,i<3->(((p.get i).kind≠0->t.get i=p.get i)/\((p.get i).kind=0->∀k,k<i->(p.get k).kind=0->(p.get i).text≠⟨#[]⟩->(p.get k).text=(p.get i).text->t.get i=t.get k)))
open Classical in
theorem h2_ {p t:d_}:bk_ p t=true↔∀i,i<3->(((p.get i).kind≠0->t.get i=p.get i)/\((p.get i).kind=0->∀k,k<i->(p.get k).kind=0->(p.get i).text≠⟨#[]⟩->(p.get k).text=(p.get i).text->t.get i=t.get k)):=by unfold bk_;exact⟨λh=>@of_decide_eq_true _ _ h,λh=>@decide_eq_true _ _ h⟩
theorem Aw_ {p t:d_} (h:bk_ p t=true) (i:Nat) (hi:i<3) (a:(p.get i).kind≠0):G_ (t.get i) (p.get i)=0:=by have:=(h2_.1 h i hi).1 a;rw[this];exact c3_ _
structure su_ (T:List d_) (p:d_) (l:List Nat):Prop where
 lt:∀n,n∈l->n<T.length
 nodup:l.Nodup
 all:∀n t,T[n]?=some t->bk_ p t=true->n∈l
structure gy_ (w:Way) (T:List d_) (p:d_) (d:Nat) (l:List Nat):Prop where
 lt:∀n,n∈l->n<T.length
 rise:l.Pairwise λa b=>∀s t,T[a]?=some s->T[b]?=some t->w_ w s t<0
 nodup:l.Nodup
 same:∀n t,n∈l->T[n]?=some t->∀e,e<d->G_ (t.get (w.get e)) (p.get (w.get e))=0
 bound:∀e,e<d->(p.get (w.get e)).kind≠0
 all:∀n t,T[n]?=some t->bk_ p t=true->n∈l
theorem gy_.start {w:Way} {T:List d_} {d:List Nat} (h:li_ w T d) (p:d_):gy_ w T p 0 d:=
 ⟨λ_ a=>h.lt a,h.rise,h.nodup,λ_ _ _ _ e b=>absurd b (by omega),λe b=>absurd b (by omega),λn t a _=>h.perm.mem_iff.2 (List.mem_range.2 (List.getElem?_eq_some_iff.1 a).1)⟩
theorem gy_.near {w:Way} {T:List d_} {p:d_} {d:Nat} {l:List Nat} (h:gy_ w T p d l):su_ T p l:=⟨h.lt,h.nodup,h.all⟩
theorem Way.Ok.lt {w:Way} (h:w.Ok) (e:Nat):w.get e<3:=by
 unfold Way.Ok at h;unfold Way.get;repeat' split
 all_goals omega
theorem gy_.mono {w:Way} {T:List d_} {p:d_} {d:Nat} {l:List Nat} (h:gy_ w T p d l) (I:d<3) (c:Nat->Int) (B:∀n t,T[n]?=some t->c n=G_ (t.get (w.get d)) (p.get (w.get d))):l.Pairwise λa b=>c a<=c b:=by
 have r:=h.rise.and (List.pairwise_iff_forall_sublist.2 fun {a b} m=>(⟨m.subset (by simp),m.subset (by simp)⟩:a∈l/\b∈l));refine r.imp fun {a b} m=>?_;obtain⟨h1,E,hb⟩:=m;have la:=h.lt a E;have lb:=h.lt b hb;have v:=List.getElem?_eq_getElem la;have u:=List.getElem?_eq_getElem lb;have h1:=h1 _ _ v u;rw[B a _ v,B b _ u]
 have same:∀e,e<d->G_ (T[a].get (w.get e)) (T[b].get (w.get e))=0:=λe A=>by
  have q:=h.same a _ E v e A;have G:=h.same b _ hb u e A;rw[d2_.zero _ _ _ q];have:=ep_ (T[b].get (w.get e)) (p.get (w.get e));omega
 have g:G_ (T[a].get (w.get d)) (T[b].get (w.get d))<=0:=by
  unfold w_ at h1;have s:w.get 0=w.i:=rfl;have D:w.get 1=w.j:=rfl;have F:w.get 2=w.k:=rfl;rcases (show d=0\/d=1\/d=2 by omega) with rfl | rfl | rfl
  ·rw[s];by_cases h0:G_ (T[a].get w.i) (T[b].get w.i)=0
   ·omega
   ·rw[cu_ h0]at h1;omega
  ·have o:=same 0 (by omega);rw[s]at o;rw[o,Z_]at h1;rw[D];by_cases h0:G_ (T[a].get w.j) (T[b].get w.j)=0
   ·omega
   ·rw[cu_ h0]at h1;omega
  ·have o:=same 0 (by omega);have q:=same 1 (by omega);rw[s]at o;rw[D]at q;rw[o,q,Z_,Z_]at h1;rw[F];omega
 generalize T[a].get (w.get d)=x at g ⊢;generalize T[b].get (w.get d)=y at g ⊢;generalize p.get (w.get d)=z;rcases j0_ x z with C | C | C
 ·rcases j0_ y z with f | f | f<;>omega
 ·rcases j0_ y z with f | f | f
  ·have:=d2_.trans_lt g (show G_ y z<0 by omega);omega
  ·omega
  ·omega
 ·rcases j0_ y z with f | f | f
  ·have:=d2_.trans_lt g (show G_ y z<0 by omega);omega
  ·have:=d2_.trans x y z g (by omega);omega
  ·omega
theorem gy_.next {w:Way} {T:List d_} {p:d_} {d:Nat} {l:List Nat} (h:gy_ w T p d l) (k:w.Ok) (f:(p.get (w.get d)).kind≠0) (c:Nat->Int) (g:∀n t,T[n]?=some t->c n=G_ (t.get (w.get d)) (p.get (w.get d))) :
    gy_ w T p (d+1) (l.filter λn=>decide (c n=0)):=by
 have a:(l.filter λn=>decide (c n=0)).Sublist l:=List.filter_sublist;refine⟨λn b=>h.lt n (a.subset b),h.rise.sublist a,h.nodup.sublist a,λn t b ht e j=>?_,λe j=>?_,λn t ht i=>?_⟩
 ·by_cases e0:e=d
  ·subst e0;rw[<-g n t ht];exact of_decide_eq_true (List.mem_filter.1 b).2
  ·exact h.same n t (a.subset b) ht e (by omega)
 ·by_cases e0:e=d
  ·subst e0;exact f
  ·exact h.bound e (by omega)
 ·refine List.mem_filter.2 ⟨h.all n t ht i,decide_eq_true ?_⟩;rw[g n t ht];exact Aw_ i _ (k.lt d) f
theorem Ax_ {T:List d_} {p:d_} {l m:List Nat} (h:su_ T p l) (f:Nat->Bool) (i:∀n t,T[n]?=some t->f n=bk_ p t) (d:m.Perm (l.filter f)) (e:m.Pairwise λa b=>a<=b):m=(List.range T.length).filter f:=by
 have g:m.Nodup:=d.nodup_iff.2 (h.nodup.sublist List.filter_sublist);refine f0_ (o:=λa b:Nat=>ce_ a b) (da_.pre λn:Nat=>(n:Int)) ?_ ?_ λx=>?_
 ·refine (e.and g).imp fun {a b} h=>?_;show ce_ (a:Int) (b:Int)<0;unfold ce_;rw[if_pos (by omega)];omega
 ·refine (List.pairwise_lt_range.sublist List.filter_sublist).imp fun {a b} h=>?_;show ce_ (a:Int) (b:Int)<0;unfold ce_;rw[if_pos (by omega)];omega
 ·rw[d.mem_iff,List.mem_filter,List.mem_filter,List.mem_range];constructor
  ·rintro⟨h1,h2⟩;exact⟨h.lt x h1,h2⟩
  ·rintro⟨h1,h2⟩;exact⟨h.all x _ (List.getElem?_eq_getElem h1) (by rw[<-i x _ (List.getElem?_eq_getElem h1)];exact h2),h2⟩
theorem xi_ {b : Type} (f:b -> Bool) (T:List b) (g:Nat->Bool) (d:∀n t,T[n]?=some t->g n=f t):((List.range T.length).filter g).filterMap (λn=>T[n]?)=T.filter f:=by
 have h:∀n,n<=T.length->((List.range n).filter g).filterMap (λn=>T[n]?)=(T.take n).filter f:=by
  intro n;induction n with
  | zero=>intro _;rfl
  | succ n i=>
   intro j;have a:n<T.length:=by omega
   rw[List.range_succ,List.filter_append,List.filterMap_append,i (by omega),List.take_succ_eq_append_getElem a,List.filter_append];congr 1
   have e:=d n _ (List.getElem?_eq_getElem a)
   cases h0:g n with
   | true=>
    rw[h0]at e;rw[List.filter_cons_of_pos (by exact h0),List.filter_cons_of_pos (by exact e.symm)];simp[List.getElem?_eq_getElem a]
   | false=>
    rw[h0]at e;rw[List.filter_cons_of_neg (by rw[h0];exact Bool.false_ne_true),List.filter_cons_of_neg (by rw[<-e];exact Bool.false_ne_true)];rfl
 have:=h T.length (Nat.le_refl _);rwa [List.take_length]at this
theorem E2_ {w:Way} {a b:d_}:(∀e,e<3->G_ (a.get (w.get e)) (b.get (w.get e))=0)↔w_ w a b=0:=by
 rw[ol_];constructor
 ·intro h;exact⟨h 0 (by omega),h 1 (by omega),h 2 (by omega)⟩
 ·rintro⟨h1,h2,d⟩ e f;rcases (show e=0\/e=1\/e=2 by omega) with rfl | rfl | rfl
  ·exact h1
  ·exact h2
  ·exact d
theorem jb_ {w:Way} {a b:d_} {d:Nat} (o:d<3) (h1:w_ w a b<=0) (f:∀e,e<d->G_ (a.get (w.get e)) (b.get (w.get e))=0):G_ (a.get (w.get d)) (b.get (w.get d))<=0:=by
 unfold w_ at h1;have h:w.get 0=w.i:=rfl;have l:w.get 1=w.j:=rfl;have n:w.get 2=w.k:=rfl;rcases (show d=0\/d=1\/d=2 by omega) with rfl | rfl | rfl
 ·rw[h];by_cases h0:G_ (a.get w.i) (b.get w.i)=0
  ·omega
  ·rw[cu_ h0]at h1;omega
 ·have g:=f 0 (by omega);rw[h]at g;rw[g,Z_]at h1;rw[l];by_cases h0:G_ (a.get w.j) (b.get w.j)=0
  ·omega
  ·rw[cu_ h0]at h1;omega
 ·have g:=f 0 (by omega);have m:=f 1 (by omega);rw[h]at g;rw[l]at m;rw[g,m,Z_,Z_]at h1;rw[n];omega
def bb_ (w:Way) (pre:List h_) (t:d_):Prop:=∀e v,pre[e]?=some v->t.get (w.get e)=v
theorem bb_.nil (w:Way) (t:d_):bb_ w [] t:=λe v h=>by simp at h
theorem bb_.snoc {w:Way} {pre:List h_} {v:h_} {t:d_}:bb_ w (pre++[v]) t↔bb_ w pre t/\t.get (w.get pre.length)=v:=by
 constructor
 ·intro h;refine⟨λe u a=>h e u ?_,h _ _ (by simp)⟩;rw[List.getElem?_append_left (List.getElem?_eq_some_iff.1 a).1];exact a
 ·rintro⟨h1,h2⟩ e u a;rcases Nat.lt_or_ge e pre.length with d | d
  ·rw[List.getElem?_append_left d]at a;exact h1 e u a
  ·have b:=(List.getElem?_eq_some_iff.1 a).1;simp only[List.length_append,List.length_cons,List.length_nil]at b;have:e=pre.length:=by omega
   subst this;simp at a;rw[h2,a]
open Classical in
noncomputable def j6_ (T:List d_) (w:Way) (pre:List h_):List h_:=ba_ G_ ((T.filter λt=>decide (bb_ w pre t)).map λt=>t.get (w.get pre.length))
section
variable {T K:List d_} {w:Way}
theorem uv_ (g:∀t,t∈T->bn_ t) (pre:List h_):i5_ G_ (j6_ T w pre)/\∀x,x∈j6_ T w pre↔∃t,t∈T/\bb_ w pre t/\t.get (w.get pre.length)=x:=by
 unfold j6_
 have f:∀x,x∈((T.filter λt=>@decide (bb_ w pre t) (Classical.propDecidable _)).map λt=>t.get (w.get pre.length))↔∃t,t∈T/\bb_ w pre t/\t.get (w.get pre.length)=x:=λx=>by
  rw[List.mem_map];constructor
  ·rintro⟨t,ht,e⟩;obtain⟨h1,h2⟩:=List.mem_filter.1 ht;exact⟨t,h1,@of_decide_eq_true _ (Classical.propDecidable _) h2,e⟩
  ·rintro⟨t,h1,h2,e⟩;exact⟨t,List.mem_filter.2 ⟨h1,@decide_eq_true _ (Classical.propDecidable _) h2⟩,e⟩
 have d:∀x,x∈((T.filter λt=>@decide (bb_ w pre t) (Classical.propDecidable _)).map λt=>t.get (w.get pre.length))->X_ x:=λx h=>by
  obtain⟨t,h1,_,e⟩:=(f x).1 h;rw[<-e];exact (g t h1).get _
 have:=d1_ d2_ (l:=(T.filter λt=>@decide (bb_ w pre t) (Classical.propDecidable _)).map λt=>t.get (w.get pre.length)) λa i b hb h0=>ej_ (d a i) (d b hb) h0;exact⟨this.1,λx=>(this.2 x).trans (f x)⟩
structure gz_ (T K:List d_) (w:Way):Prop where
 ok:w.Ok
 mem:∀t,t∈K↔t∈T
 scal:∀t,t∈T->bn_ t
 rise:i5_ (w_ w) K
theorem gz_.le (h:gz_ T K w) {n m:Nat} {s t:d_} (b:K[n]?=some s) (ht:K[m]?=some t) (g:n<=m):w_ w s t<=0:=by
 obtain⟨d,en⟩:=List.getElem?_eq_some_iff.1 b;obtain⟨f,a⟩:=List.getElem?_eq_some_iff.1 ht;by_cases e:n=m
 ·subst e;rw[<-en,<-a];have:=(a7_ w).refl K[n];omega
 ·have:=List.pairwise_iff_getElem.1 h.rise n m d f (by omega);rw[en,a]at this;omega
theorem gz_.scal' (h:gz_ T K w) {n:Nat} {s:d_} (a:K[n]?=some s):bn_ s:=h.scal s ((h.mem s).1 (List.mem_of_getElem? a))
theorem gz_.mono (h:gz_ T K w) {pre:List h_} (f:pre.length<3) {n m:Nat} {s t:d_} (d:K[n]?=some s) (ht:K[m]?=some t) (b:n<=m) (g:bb_ w pre s) (i:bb_ w pre t):G_ (s.get (w.get pre.length)) (t.get (w.get pre.length))<=0:=by refine jb_ f (h.le d ht b) λe a=>?_;rw[g e _ (List.getElem?_eq_getElem a),i e _ (List.getElem?_eq_getElem a)];exact c3_ _
structure Lev (K:List d_) (w:Way) (pre:List h_) (v:h_) (a b s:Nat):Prop where
 d3:pre.length<3
 sa:s<=a
 ab:a<b
 bl:b<=K.length
 span:∀n t,K[n]?=some t->((s<=n/\n<b)↔bb_ w pre t)
 here:∀t,K[a]?=some t->t.get (w.get pre.length)=v
 first:∀n t,s<=n->n<a->K[n]?=some t->G_ (t.get (w.get pre.length)) v<0
structure sv_ (K:List d_) (f:d_->Prop) (a b q:Nat):Prop where
 aq:a<=q
 qb:q<=b
 no:∀n t,a<=n->n<q->K[n]?=some t->¬f t
 yes:∀t,q<b->K[q]?=some t->f t
theorem Lev.at_ {pre:List h_} {v:h_} {a b s:Nat} (h:Lev K w pre v a b s) {n:Nat} (d:n<b):∃t,K[n]?=some t:=⟨_,List.getElem?_eq_getElem (Nat.lt_of_lt_of_le d h.bl)⟩
theorem Lev.val (d:gz_ T K w) {pre:List h_} {v:h_} {a b s:Nat} (h:Lev K w pre v a b s):X_ v:=by obtain⟨t,ht⟩:=h.at_ h.ab;rw[<-h.here t ht];exact (d.scal' ht).get _
theorem Lev.to (g:gz_ T K w) {pre:List h_} {v:h_} {a b s q:Nat} (h:Lev K w pre v a b s) (k:h_->Bool)
    (p:sv_ K (λt=>k (t.get (w.get pre.length))=true) a b q) (f:h_->Bool) (R:∀x,x∈j6_ T w pre->f x=(decide (0<=G_ x v)&&k x)) :
    (q<b->∃x,(j6_ T w pre).find? f=some x/\(∀t,K[q]?=some t->t.get (w.get pre.length)=x)/\Lev K w pre x q b s)/\(q=b->(j6_ T w pre).find? f=none):=by
 obtain⟨J,D⟩:=uv_ (w:=w) g.scal pre;have W:=h.val g
 have i:∀n t,s<=n->n<q->K[n]?=some t->f (t.get (w.get pre.length))=false:=λn t h1 h2 ht=>by
  have hb:=(h.span n t ht).1 ⟨h1,by have:=p.qb;omega⟩;rw[R _ ((D _).2 ⟨t,(g.mem t).1 (List.mem_of_getElem? ht),hb,rfl⟩)];by_cases P:n<a
  ·have:=h.first n t h1 P ht;rw[decide_eq_false (by omega)];rfl
  ·have:=p.no n t (by omega) h2 ht
   cases hp:k (t.get (w.get pre.length)) with
   | true=>exact absurd hp this
   | false=>rw[Bool.and_false]
 constructor
 ·intro j;obtain⟨t,ht⟩:=h.at_ j;have l:=(h.span q t ht).1 ⟨by have:=h.sa;have:=p.aq;omega,j⟩;have z:=(D _).2 ⟨t,(g.mem t).1 (List.mem_of_getElem? ht),l,rfl⟩;obtain⟨N,C⟩:=h.at_ h.ab;have O:=(h.span a N C).1 ⟨h.sa,h.ab⟩;have M:0<=G_ (t.get (w.get pre.length)) v:=by have:=g.mono h.d3 C ht p.aq O l;rw[h.here N C]at this;have:=ep_ v (t.get (w.get pre.length));omega
  have F:f (t.get (w.get pre.length))=true:=by rw[R _ z,decide_eq_true M,p.yes t j ht];rfl
  have G:∀n u,s<=n->n<q->K[n]?=some u->G_ (u.get (w.get pre.length)) (t.get (w.get pre.length))<0:=λn u h1 h2 d=>by
   have L:=(h.span n u d).1 ⟨h1,by omega⟩;have U:=g.mono h.d3 d ht (by omega) L l;rcases Int.lt_or_eq_of_le U with I | I
   ·exact I
   ·have e:=ej_ ((g.scal' d).get _) ((g.scal' ht).get _) I;have:=i n u h1 h2 d;rw[e,F]at this
    cases this
  refine⟨t.get (w.get pre.length),?_,λu d=>?_,⟨h.d3,by have:=h.sa;have:=p.aq;omega,j,h.bl,h.span,λu d=>?_,G⟩⟩
  ·rw[List.find?_eq_some_iff_append];refine⟨F,?_⟩;obtain⟨la,lb,e⟩:=List.append_of_mem z;refine⟨la,lb,e,λy E=>?_⟩;rw[e]at J;have V:=(List.pairwise_append.1 J).2.2 y E _ List.mem_cons_self;obtain⟨u,B,m,o⟩:=(D y).1 (by rw[e];exact List.mem_append_left _ E);obtain⟨n,r⟩:=List.getElem?_of_mem ((g.mem u).2 B);have A:=(h.span n u r).2 m
   have S:n<q:=by
    rcases Nat.lt_or_ge n q with h1 | h1
    ·exact h1
    ·have h2:=g.mono h.d3 ht r h1 l m;rw[o]at h2;have:=ep_ y (t.get (w.get pre.length));omega
   have:=i n u A.1 S r;rw[o]at this;rw[this];rfl
  ·rw[ht]at d;injection d with d;rw[d]
  ·rw[ht]at d;injection d with d;rw[d]
 ·intro j;rw[List.find?_eq_none];intro y E;obtain⟨u,B,m,o⟩:=(D y).1 E;obtain⟨n,r⟩:=List.getElem?_of_mem ((g.mem u).2 B);have A:=(h.span n u r).2 m;have:=i n u A.1 (by omega) r;rw[o]at this;rw[this];exact Bool.false_ne_true
theorem Lev.down (i:gz_ T K w) {pre:List h_} {v:h_} {a b s q:Nat} (h:Lev K w pre v a b s) (P:pre.length<2) (k:sv_ K (λt=>0<G_ (t.get (w.get pre.length)) v) a b q) :
    ∃x r,j6_ T w (pre++[v])=x::r/\Lev K w (pre++[v]) x a q a:=by
 obtain⟨C,D⟩:=uv_ (w:=w) i.scal (pre++[v]);obtain⟨t,ht⟩:=h.at_ h.ab;have o:=(h.span a t ht).1 ⟨h.sa,h.ab⟩;have p:=bb_.snoc.2 ⟨o,h.here t ht⟩;have G:=h.val i;have M:(pre++[v]).length=pre.length+1:=by simp
 have E:a<q:=by
  rcases Nat.lt_or_ge a q with h1 | h1
  ·exact h1
  ·have e:q=a:=by have:=k.aq;omega
   have h2:=k.yes t (by rw[e];exact h.ab) (by rw[e];exact ht);rw[h.here t ht,c3_]at h2;omega
 have j:∀n u,K[n]?=some u->((a<=n/\n<q)↔bb_ w (pre++[v]) u):=λn u d=>by
  rw[bb_.snoc];constructor
  ·rintro⟨h1,h2⟩;have m:=(h.span n u d).1 ⟨by have:=h.sa;omega,by have:=k.qb;omega⟩;refine⟨m,?_⟩;have f:=i.mono h.d3 ht d h1 o m;rw[h.here t ht]at f;have N:=k.no n u h1 h2 d;have:=ep_ v (u.get (w.get pre.length));exact (ej_ G ((i.scal' d).get _) (by omega)).symm
  ·rintro⟨h1,h2⟩;have l:=(h.span n u d).2 h1;constructor
   ·rcases Nat.lt_or_ge n a with f | f
    ·have:=h.first n u l.1 f d;rw[h2,c3_]at this;omega
    ·exact f
   ·rcases Nat.lt_or_ge n q with f | f
    ·exact f
    ·obtain⟨y,B⟩:=h.at_ (show q<b by omega);have N:=k.yes y (by omega) B;have F:=(h.span q y B).1 ⟨by have:=h.sa;omega,by omega⟩;have O:=i.mono h.d3 B d f F h1;rw[h2]at O;omega
 have g:=(D (t.get (w.get (pre++[v]).length))).2 ⟨t,(i.mem t).1 (List.mem_of_getElem? ht),p,rfl⟩
 cases hk:j6_ T w (pre++[v]) with
 | nil=>rw[hk]at g;cases g
 | cons x r=>
  rw[hk]at g C
  have L:x=t.get (w.get (pre++[v]).length):=by
   rcases List.mem_cons.1 g with e | e
   ·exact e.symm
   ·have h1:=(List.pairwise_cons.1 C).1 _ e;obtain⟨u,I,A,J⟩:=(D x).1 (by rw[hk];exact List.mem_cons_self);obtain⟨n,z⟩:=List.getElem?_of_mem ((i.mem u).2 I);have l:=(j n u z).2 A;have h2:=i.mono (pre:=pre++[v]) (by omega) ht z l.1 p A;rw[J]at h2;have:=ep_ x (t.get (w.get (pre++[v]).length));omega
  refine⟨x,r,rfl,by omega,Nat.le_refl _,E,Nat.le_trans k.qb h.bl,j,λu d=>?_,λn u h1 h2=>absurd h1 (by omega)⟩;rw[ht]at d;injection d with d;rw[<-d,L]
end
structure fd_ where
 way:List h_
 fin:Bool
def upA (c:fd_):fd_×Bool:=if c.way=[] then (c,false) else (⟨c.way.dropLast,false⟩,true)
def toF (a:Bool) (b v x:h_):Bool:=decide (0<=G_ x b)&&(if a=true then decide (0<G_ x v) else decide (0<=G_ x v))
noncomputable def toA (T:List d_) (w:Way) (a:Bool) (v:h_) (c:fd_):fd_×Bool:=
 match c.way.getLast? with
 | none=>(c,false)
 | some b=>if c.fin=true then (c,false) else match (j6_ T w c.way.dropLast).find? (toF a b v) with
  | some x=>(⟨c.way.dropLast++[x],false⟩,true)
  | none=>(⟨c.way,true⟩,false)
def Lx_ (c:fd_):Option h_:=if c.fin=true then none else c.way.getLast?
def upd (f:Nat->Nat) (e x:Nat):Nat->Nat:=λi=>if i=e then x else f i
theorem uw_ (f:Nat->Nat) (e x:Nat):upd f e x e=x:=if_pos rfl
theorem Ay_ (f:Nat->Nat) {e x i:Nat} (h:i≠e):upd f e x i=f i:=if_neg h
structure hm_ (K:List d_) (w:Way) (c:fd_) (at_ en:Nat->Nat):Prop where
 d3:c.way.length<=3
 fin0:c.fin=true->0<c.way.length
 lev:∀e v,c.way[e]?=some v->(e+1<c.way.length\/c.fin=false)->∃s,Lev K w (c.way.take e) v (at_ (e+1)) (en (e+1)) s
 end_:c.fin=true->at_ c.way.length=en c.way.length/\en c.way.length<=K.length
section
variable {T K:List d_} {w:Way} {c:fd_} {at_ en:Nat->Nat}
theorem hm_.start (K:List d_) (w:Way) (at_ en:Nat->Nat):hm_ K w ⟨[],false⟩ at_ en:=⟨Nat.zero_le _,λh=>(by cases h),λe v h=>(by simp at h),λh=>(by cases h)⟩
theorem hm_.last (h:hm_ K w c at_ en) (h0:0<c.way.length) (e:c.fin=false):∃v s,c.way.getLast?=some v/\c.way=c.way.dropLast++[v]/\c.way.dropLast.length+1=c.way.length/\Lev K w c.way.dropLast v (at_ c.way.length) (en c.way.length) s:=by
 have a:c.way≠[]:=List.length_pos_iff.1 h0;have b:c.way.getLast?=some (c.way.getLast a):=List.getLast?_eq_some_getLast a;have f:c.way[c.way.length-1]?=some (c.way.getLast a):=by rw[<-b,List.getLast?_eq_getElem?]
 obtain⟨s,d⟩:=h.lev _ _ f (.inr e);rw[<-List.dropLast_eq_take,Nat.sub_add_cancel h0]at d;exact⟨_,s,b,(List.dropLast_concat_getLast a).symm,by rw[List.length_dropLast];omega,d⟩
theorem hm_.stands (h:hm_ K w c at_ en) (h0:0<c.way.length):at_ c.way.length<en c.way.length↔c.fin=false:=by
 cases hf:c.fin with
 | true=>
  have:=(h.end_ hf).1;constructor
  ·intro h;omega
  ·intro h;cases h
 | false=>
  obtain⟨v,s,_,_,_,a⟩:=h.last h0 hf;exact⟨λ_=>rfl,λ_=>a.ab⟩
theorem hm_.key (h:hm_ K w c at_ en) (h0:0<c.way.length) (b:c.fin=false):∃v t,Lx_ c=some v/\K[at_ c.way.length]?=some t/\t.get (w.get (c.way.length-1))=v:=by
 obtain⟨v,s,d,e,f,a⟩:=h.last h0 b;obtain⟨t,ht⟩:=a.at_ a.ab;refine⟨v,t,?_,ht,?_⟩
 ·unfold Lx_;rw[b,if_neg Bool.false_ne_true,d]
 ·have:=a.here t ht;rwa [show c.way.dropLast.length=c.way.length-1 by omega]at this
theorem hm_.up (h:hm_ K w c at_ en) (h0:0<c.way.length):upA c=(⟨c.way.dropLast,false⟩,true)/\hm_ K w ⟨c.way.dropLast,false⟩ at_ en:=by
 have b:c.way≠[]:=List.length_pos_iff.1 h0;constructor
 ·unfold upA;rw[if_neg b]
 ·refine⟨by have:=h.d3;rw[List.length_dropLast];omega,λh=>(by cases h),λe v a _=>?_,λh=>(by cases h)⟩;have g:=(List.getElem?_eq_some_iff.1 a).1;rw[List.length_dropLast]at g;have d:c.way[e]?=some v:=by rw[List.dropLast_eq_take,List.getElem?_take_of_lt (by omega)]at a;exact a
  obtain⟨s,f⟩:=h.lev e v d (.inl (by omega));refine⟨s,?_⟩;show Lev K w (c.way.dropLast.take e) v _ _ s;rw[List.dropLast_eq_take,List.take_take,Nat.min_eq_left (by omega)];exact f
theorem hm_.to (G:gz_ T K w) (h:hm_ K w c at_ en) (h0:0<c.way.length) (j:c.fin=false) (a:Bool) (v:h_) {q:Nat}
    (m:sv_ K (λt=>(if a=true then decide (0<G_ (t.get (w.get (c.way.length-1))) v) else decide (0<=G_ (t.get (w.get (c.way.length-1))) v))=true) (at_ c.way.length) (en c.way.length) q) :
    ∃b,toA T w a v c=(b,!b.fin)/\b.way.length=c.way.length/\hm_ K w b (upd at_ c.way.length q) en:=by
 obtain⟨B,s,C,r,E,o⟩:=h.last h0 j;rw[show c.way.length-1=c.way.dropLast.length by omega]at m;obtain⟨l,z⟩:=o.to G (λx=>if a=true then decide (0<G_ x v) else decide (0<=G_ x v)) m (toF a B v) λx _=>rfl
 have i:∀b:fd_,b.way.take c.way.dropLast.length=c.way.dropLast->b.way.length=c.way.length->∀e u,b.way[e]?=some u->e<c.way.dropLast.length->∃s,Lev K w (b.way.take e) u (upd at_ c.way.length q (e+1)) (en (e+1)) s:=by
  intro b ht f e u d g
  have D:c.way[e]?=some u:=by
   have h1:(b.way.take c.way.dropLast.length)[e]?=some u:=by rw[List.getElem?_take_of_lt g];exact d
   rw[ht]at h1;rw[r,List.getElem?_append_left g];exact h1
  obtain⟨s,F⟩:=h.lev e u D (.inr j);refine⟨s,?_⟩;rw[Ay_ _ (by omega)]
  have h2:b.way.take e=c.way.take e:=by
   have n:(b.way.take c.way.dropLast.length).take e=b.way.take e:=by rw[List.take_take,Nat.min_eq_left (by omega)]
   rw[<-n,ht,List.dropLast_eq_take,List.take_take,Nat.min_eq_left (by omega)]
  rw[h2];exact F
 rcases Nat.lt_or_ge q (en c.way.length) with g | I
 ·obtain⟨x,p,J,y⟩:=l g;have f:(c.way.dropLast++[x]).length=c.way.length:=by simp only[List.length_append,List.length_cons,List.length_nil];omega
  refine⟨⟨c.way.dropLast++[x],false⟩,?_,f,?_⟩
  ·unfold toA;rw[C];simp only;rw[j,if_neg Bool.false_ne_true,p];rfl
  ·refine⟨by show (c.way.dropLast++[x]).length<=3;rw[f];exact h.d3,λh=>(by cases h),λe u d _=>?_,λh=>(by cases h)⟩;rcases Nat.lt_or_ge e c.way.dropLast.length with h1 | h1
   ·exact i ⟨c.way.dropLast++[x],false⟩ (by show (c.way.dropLast++[x]).take _=_;rw[List.take_left'];rfl) f e u d h1
   ·have h2:=(List.getElem?_eq_some_iff.1 d).1;have n:(c.way.dropLast++[x]).length=c.way.dropLast.length+1:=by simp
    have h2:e<(c.way.dropLast++[x]).length:=h2;have:e=c.way.dropLast.length:=by omega
    subst this;have d:(c.way.dropLast++[x])[c.way.dropLast.length]?=some u:=d;rw[List.getElem?_append_right (Nat.le_refl _)]at d;simp at d;subst d;refine⟨s,?_⟩;show Lev K w ((c.way.dropLast++[x]).take c.way.dropLast.length) x _ _ s;rw[List.take_left' rfl,E,uw_];exact y
 ·have k:q=en c.way.length:=by have:=m.qb;omega
  refine⟨⟨c.way,true⟩,?_,rfl,?_⟩
  ·unfold toA;rw[C];simp only;rw[j,if_neg Bool.false_ne_true,z k];rfl
  ·refine⟨h.d3,λ_=>h0,λe u d A=>?_,λ_=>⟨?_,o.bl⟩⟩
   ·rcases A with h1 | h1
    ·exact i ⟨c.way,true⟩ (by show c.way.take _=_;rw[r];simp) rfl e u d (by have:e+1<c.way.length:=h1;omega)
    ·cases h1
   ·show upd at_ c.way.length q c.way.length=_;rw[uw_,k]
end
end
end Go.Proofs.YtefhfadjajcmkaaGreatDoor
