/- Triples: what is loaded from a list; the closures of Load; ContainsFunc. -/
import Derived.Test.YtefhfadjajcmkaaGreatDoorH7
set_option linter.unusedVariables false
set_option linter.unusedSimpArgs false
set_option maxRecDepth 100000
set_option maxHeartbeats 64000000
namespace Go.Proofs.YtefhfadjajcmkaaGreatDoor
open Go Go.RowKit
open Go.Lib (cell_of_heap)
theorem do_ {P:Program} (w:World) (a:Addr) (ty:TypeId) (c:Array Value) (d:TypeDesc) (k:∀j,j<c.size->w.cell? (a.add j)=c[j]?)
    (g:P.underlying ty=some d) (m:d.isRow=true) (hi:(P.info? ty).map (·.size)=some c.size):(loadVar ty a).run P w = .ok (.agg c) w:=by
 have l:(loadCells a c.size).run P w = .ok c w:=by
  have:=run_loadCells_list (P:=P) w a c.toList (λj v e=>by
   have f:j<c.size:=by have:=(List.getElem?_eq_some_iff.1 e).1;simpa using this
   rw[k j f,<-Array.getElem?_toList];exact e)
  rw[Array.toArray_toList,Array.length_toList]at this;exact this
 cases hq:P.info? ty with
 | none=>simp[hq]at hi
 | some i=>
  have h:i.size=c.size:=by simpa [hq] using hi
  have b:(isAgg ty).run P w = .ok true w:=by
   unfold isAgg;rw[Sem.run_bind,run_underlying g w]
   cases d<;>simp_all
  simp[loadVar,Sem.run_bind,b,sizeOf,typeInfo,hq,h,l]
theorem s1_ {P:Program} {b:Array Oper} {rest:List Oper} {op:Oper} {a:Act} {w:World} {Q:Exit->Act->World->Prop} (e:op.guard=none) (ty:TypeId) (x:Operand) (l:op.op = .load ty x) {p:Addr} (g:a.eval x = .pointer (some p)) (c:Array Value) (d:TypeDesc) (i:∀j,j<c.size->w.cell? (p.add j)=c[j]?)
    (f:P.underlying ty=some d) (k:d.isRow=true) (hi:(P.info? ty).map (·.size)=some c.size) (h:wpList P b Q rest (a.put op.dst (.agg c)) w):wpList P b Q (op::rest) a w:=
 wpList_plain e λ_ m=>by
  unfold Oper.wp execOp;simp only[l,g,Instr.loadAt,Instr.sureAddr,Sem.run_bind,Sem.run_pure,Result.andThen_ok,do_ w p ty c d i f k hi];exact m _ _ h
theorem hq_:(Tryz.prog.info? 41).map (·.size)=some 18:=by kernel_rfl
theorem fv_:(Tryz.prog.info? 99).map (·.size)=some 18:=by kernel_rfl
theorem Hz_ (t:d_) (r:OkT t) (F:Nat->Prop) (c:Nat->Value) (w:World) (j:∀g,F g->g<w.heap.size) (k:∀n,n<3->VRd w F (t.get n) (.agg (c_ (t.get n) (c n)))) (s:M_ w) :
    Calls Tryz.prog 46 #[.agg (L_ t c)] w (z_ (!(dh_ t)) w):=by
 have b:=q_ (λ(W:World) (hb:Below w.heap.size w W)=>xk_ t r F c W (λg h=>Nat.lt_of_lt_of_le (j g h) hb.size) (λn v=>(k n v).under hb j) (g_ s hb));clear k j s r;unfold z_ at b ⊢;obtain⟨m,p⟩:=a_ (dh_ t);rw[p.o]at b ⊢;clear p;obtain⟨f,d⟩:=bn_ t c;rw[d.o]at b ⊢;have y:=q_ (hq_.trans (congrArg some d.size.symm));obtain⟨z,u⟩:=a_ w.heap.size;obtain⟨q,a⟩:=a_ (w.alloc (.cells f 41));have i:=q_ (show Below w.heap.size w q from by rw[<-a.o];exact (Below.refl _ _).alloc (Nat.le_refl _) _);have x:=q_ (show q.heap[z]?=some (.cells f 41 (0,0)) from by rw[<-a.o,<-u.o];exact heap_alloc_new w _);go_enter Tryz.func46,Tryz.ntmps46
 go_upto_region 1 with fail;rw[a.o,u.o];clear a;go_wp2_with ((with_reducible refine e_ (some 3) ?_);refine w_ rfl 41 _ rfl z 0 rfl f _ (k_ x.o) Tryz.underlying41 rfl y.o ?_)
 refine (b.o _ i.o).mono ?_;rintro e w2 ⟨rfl,hb⟩;have l:=q_ (i.o.trans (hb.mono i.o.size));clear hb;go_wp2_with fail;go_ret;exact⟨rfl,l.o⟩
theorem TrR.cells {w:World} {F:Nat->Prop} {L:List d_} {A:Option Addr} {n:Nat} (h:SRd 18 TrR w F L A n) {k:Nat} {t:d_} (d:L[k]?=some t) :
    ∃ad a,A=some ad/\F ad.block/\(∀j,j<(L_ t a).size->w.cell? ((ad.add (k*18)).add j)=(L_ t a)[j]?)/\∀i,i<3->VRd w F (t.get i) (.agg (c_ (t.get i) (a i))):=by
 obtain⟨ad,c,e,l,m,f,a,rfl,g⟩:=h.at_ d;exact⟨ad,a,e,l,λj b=>by rw[add_of_add];exact f j b,g⟩
def Jq_ (b:Bool) (w:World) (e:Ending) (w':World):Prop:=∃r:Int,e = .returned (.int .i64 r)/\decide (0<=r)=b/\Below w.heap.size w w'
theorem Ey_ (L:List d_) (p:∀t,t∈L->OkT t) (F:Nat->Prop) (A:Option Addr) (n c:Nat) (w:World) (u:∀g,F g->g<w.heap.size) (h:SRd 18 TrR w F L A n) (U:n<=1000000000) (D:M_ w) :
    Calls Tryz.prog 111 #[.slice A n c,.func (.func 46) #[] #[]] w (Jq_ (!(L.all dh_)) w):=by
 have N:=q_ (λ(W:World) (hb:Below w.heap.size w W)=>h.under TrR.good hb u);have I:=q_ h.1;have d:=q_ (λ(W:World) (hb:Below w.heap.size w W) (t:d_) (P:t∈L) (f:Nat->Value) (S:∀n,n<3->VRd W F (t.get n) (.agg (c_ (t.get n) (f n))))=>Hz_ t (p t P) F f W (λg h=>Nat.lt_of_lt_of_le (u g h) hb.size) S (g_ D hb));unfold z_ at d;clear h p u D;obtain⟨r,v⟩:=a_ (!(L.all dh_));rw[v.o];go_enter Tryz.func111,Tryz.ntmps111
 go_wp2_with fail;go_loopw [8] (λq R=>∃k:Nat,k<=n/\q = .int .i64 (k:Nat)/\Q_ (Below w.heap.size w R/\(L.take k).all dh_=true)) (λq _=>n-(intOf q).toNat)
 case atStart=>exact⟨0,by omega,rfl,q_ ⟨Below.refl _ _,by simp⟩⟩
 case round=>
  obtain⟨k,X,rfl,b⟩:=hrel;by_cases B:k<n
  ·obtain⟨y,i⟩:∃y,L[k]?=some y:=⟨L[k]'(by rw[<-I.o];exact B),List.getElem?_eq_getElem _⟩;have G:=q_ i;obtain⟨ad,f,rfl,_,s,J⟩:=TrR.cells (N.o wr b.o.1) i;have a:=q_ (d.o wr b.o.1 y (List.mem_of_getElem? i) f J);clear i J;obtain⟨m,z⟩:=a_ (dh_ y);rw[z.o]at a;obtain⟨O,l⟩:=bn_ y f;rw[l.o]at a s;have E:=q_ s;clear s;have M:=q_ (hq_.trans (congrArg some l.size.symm));have V:(0:Int)<=k:=by omega
   have Y:(k:Int)<n:=by omega
   have Z:IntKind.i64.wrap ((k:Int)+1)=(k:Int)+1:=IntWalk.i64_in _ (by omega);go_wp2_with ((with_reducible refine e_ (some 15) ?_);refine s1_ rfl 41 _ rfl rfl O _ E.o Tryz.underlying41 rfl M.o ?_)
   refine a.o.mono ?_;rintro e w2 ⟨rfl,hb⟩;have j:=q_ (b.o.1.trans (hb.mono b.o.1.size));have T:=q_ b.o.2;clear hb b a E
   cases m with
   | false=>
    have x:=q_ (show r=true from by rw[<-v.o,Bool.not_eq_true',List.all_eq_false];exact⟨y,List.mem_of_getElem? G.o,by rw[z.o];exact Bool.false_ne_true⟩);go_wp2_with fail;go_ret;exact⟨(k:Int),rfl,by rw[x.o];simp,j.o⟩
   | true=>
    go_wp2_with fail;go_roundw
    case rel=>exact⟨k+1,by omega,by go_num,q_ ⟨j.o,by rw[f_ G.o,List.all_append,T.o,Bool.true_and];simp[z.o]⟩⟩
    case measure=>simp[intOf];omega
  ·have C:n=k:=by omega
   subst C;have x:=q_ (show r=false from by rw[<-v.o,Bool.not_eq_false'];have h:=b.o.2;rw[List.take_of_length_le (by rw[<-I.o];exact Nat.le_refl _)]at h;exact h);go_wp2_with fail;go_ret;exact⟨-1,rfl,by rw[x.o];simp,b.o.1⟩
theorem qf_ (L:List d_) (a:∀t,t∈L->OkT t) (F:Nat->Prop) (A:Option Addr) (n c:Nat) (w:World) (i:∀g,F g->g<w.heap.size) (h:SRd 18 TrR w F L A n) (l:n<=1000000000) (j:M_ w) :
    Calls Tryz.prog 45 #[.slice A n c,.func (.func 46) #[] #[]] w (z_ (!(L.all dh_)) w):=by
 have b:=q_ (Ey_ L a F A n c w i h l j);unfold Jq_ at b;clear h a i j;obtain⟨r,d⟩:=a_ (!(L.all dh_));rw[d.o]at b ⊢;clear d;go_enter Tryz.func45,Tryz.ntmps45
 go_wp2_with fail;refine b.o.mono ?_;rintro e m ⟨q,rfl,f,hb⟩;have k:=q_ f;clear f;go_wp2_with fail;go_ret;exact⟨by rw[<-k.o];rfl,hb⟩
def gt_ (W:Way):Array Value:=#[.int .i64 (W.i:Nat),.int .i64 (W.j:Nat),.int .i64 (W.k:Nat)]
theorem At_ (W:Way) (C:W.Ok) (a b:d_) (sa sb:Nat->Value) (g:Nat) (w:World) (u:w.heap[g]?=some (.cells (gt_ W) 101 (0,0))) (D:∀n,uz_ (a.get n)) (B:∀n,a9_ (b.get n)) (q:M_ w) (s:bc_ w) :
    Calls Tryz.prog 50 #[.agg (L_ a sa),.agg (L_ b sb),.pointer (some ⟨g,0,none⟩)] w (xj_ W a b w):=by
 have h:=q_ (λ(E:World) (hb:Below w.heap.size w E)=>l9_ W C a b sa sb E D B (g_ q hb) (p_ s hb));clear D B q s C;unfold xj_ at h ⊢;obtain⟨v,F⟩:=a_ (A_ W a b);rw[F.o]at h ⊢;clear F;obtain⟨x,p⟩:=bn_ a sa;obtain⟨t,r⟩:=bn_ b sb;rw[p.o,r.o]at h ⊢;have I:=q_ (fv_.trans (congrArg some p.size.symm));have G:=q_ (fv_.trans (congrArg some r.size.symm));obtain⟨z,y⟩:=a_ w.heap.size;obtain⟨d,c⟩:=a_ ((w.alloc (.cells x 99)).alloc (.cells t 99));have m:=q_ (show Below w.heap.size w d from by rw[<-c.o];exact D_ w _ _);have L:=q_ (show d.heap[z]?=some (.cells x 99 (0,0)) from by rw[<-c.o,<-y.o];exact heap_alloc2_old w _ _);have M:=q_ (show d.heap[z+1]?=some (.cells t 99 (0,0)) from by rw[<-c.o,<-y.o];exact heap_alloc2_new w _ _);have f:=q_ (show d.heap[g]?=some (.cells (gt_ W) 101 (0,0)) from (m.o.block g (b_ u)).trans u);clear u;obtain⟨i,N⟩:=a_ W.i;obtain⟨j,S⟩:=a_ W.j;obtain⟨l,R⟩:=a_ W.k;unfold gt_ at f;rw[N.o,S.o,R.o]at h f;have O:d.cell? ⟨g,0,none⟩=some (.int .i64 (i:Nat)):=cell_of_heap f.o 0;have P:d.cell? ⟨g,1,none⟩=some (.int .i64 (j:Nat)):=cell_of_heap f.o 1;have J:d.cell? ⟨g,2,none⟩=some (.int .i64 (l:Nat)):=cell_of_heap f.o 2;go_enter Tryz.func50,Tryz.ntmps50
 go_upto_region 1 with fail;rw[c.o,y.o];clear c
 go_wp2_with (first
  | ((with_reducible refine e_ (some 6) ?_);refine w_ rfl 99 _ rfl z 0 rfl x _ (k_ L.o) Tryz.underlying99 rfl I.o ?_)
  | ((with_reducible refine e_ (some 7) ?_);refine w_ rfl 99 _ rfl (z+1) 0 rfl t _ (k_ M.o) Tryz.underlying99 rfl G.o ?_))
 refine (h.o _ m.o).mono ?_;rintro e w2 ⟨rfl,hb⟩;have A:=q_ (m.o.trans (hb.mono m.o.size));clear hb O P J;go_wp2_with fail;go_ret;exact⟨rfl,A.o⟩
theorem Au_ (W:Way) (C:W.Ok) (a b:d_) (sa sb:Nat->Value) (g:Nat) (w:World) (u:w.heap[g]?=some (.cells (gt_ W) 101 (0,0))) (D:∀n,uz_ (a.get n)) (B:∀n,a9_ (b.get n)) (q:M_ w) (s:bc_ w) :
    Calls Tryz.prog 53 #[.agg (L_ a sa),.agg (L_ b sb),.pointer (some ⟨g,0,none⟩)] w (z_ (A_ W a b==0) w):=by
 have h:=q_ (λ(E:World) (hb:Below w.heap.size w E)=>l9_ W C a b sa sb E D B (g_ q hb) (p_ s hb));clear D B q s C;unfold xj_ at h;unfold z_;obtain⟨v,F⟩:=a_ (A_ W a b);rw[F.o]at h ⊢;clear F;obtain⟨x,p⟩:=bn_ a sa;obtain⟨t,r⟩:=bn_ b sb;rw[p.o,r.o]at h ⊢;have I:=q_ (fv_.trans (congrArg some p.size.symm));have G:=q_ (fv_.trans (congrArg some r.size.symm));obtain⟨z,y⟩:=a_ w.heap.size;obtain⟨d,c⟩:=a_ ((w.alloc (.cells x 99)).alloc (.cells t 99));have m:=q_ (show Below w.heap.size w d from by rw[<-c.o];exact D_ w _ _);have L:=q_ (show d.heap[z]?=some (.cells x 99 (0,0)) from by rw[<-c.o,<-y.o];exact heap_alloc2_old w _ _);have M:=q_ (show d.heap[z+1]?=some (.cells t 99 (0,0)) from by rw[<-c.o,<-y.o];exact heap_alloc2_new w _ _);have f:=q_ (show d.heap[g]?=some (.cells (gt_ W) 101 (0,0)) from (m.o.block g (b_ u)).trans u);clear u;obtain⟨i,N⟩:=a_ W.i;obtain⟨j,S⟩:=a_ W.j;obtain⟨l,R⟩:=a_ W.k;unfold gt_ at f;rw[N.o,S.o,R.o]at h f;have O:d.cell? ⟨g,0,none⟩=some (.int .i64 (i:Nat)):=cell_of_heap f.o 0;have P:d.cell? ⟨g,1,none⟩=some (.int .i64 (j:Nat)):=cell_of_heap f.o 1;have J:d.cell? ⟨g,2,none⟩=some (.int .i64 (l:Nat)):=cell_of_heap f.o 2;go_enter Tryz.func53,Tryz.ntmps53
 go_upto_region 1 with fail;rw[c.o,y.o];clear c
 go_wp2_with (first
  | ((with_reducible refine e_ (some 6) ?_);refine w_ rfl 99 _ rfl z 0 rfl x _ (k_ L.o) Tryz.underlying99 rfl I.o ?_)
  | ((with_reducible refine e_ (some 7) ?_);refine w_ rfl 99 _ rfl (z+1) 0 rfl t _ (k_ M.o) Tryz.underlying99 rfl G.o ?_))
 refine (h.o _ m.o).mono ?_;rintro e w2 ⟨rfl,hb⟩;have A:=q_ (m.o.trans (hb.mono m.o.size));clear hb O P J;go_wp2_with fail;go_ret;exact⟨rfl,A.o⟩
end Go.Proofs.YtefhfadjajcmkaaGreatDoor
