/- Small words for the walks of the laws. -/
import Derived.Test.YtefhfadjajcmkaaGreatDoorHD
import Derived.Shelf.Slices.In.SortNone
set_option linter.unusedVariables false
set_option linter.unusedSimpArgs false
set_option maxRecDepth 100000
set_option maxHeartbeats 64000000
namespace Go.Proofs.YtefhfadjajcmkaaGreatDoor
open Go.Lib (cell_of_heap)
section
open Go Go.RowKit Go.Maps
theorem Ic_ (A o t r z a5 y u v x e i k f h n b g:Value) (w:World):(Instr.buildSlice 93 1 #[(0,.agg #[A,o,t,r,z,a5,y,u,v,x,e,i,k,f,h,n,b,g])]).run Tryz.prog w = .ok (.slice (some ⟨w.heap.size,0,none⟩) 1 1) (w.alloc (.cells #[A,o,t,r,z,a5,y,u,v,x,e,i,k,f,h,n,b,g] 99)):=by kernel_rfl
theorem Km_ (c:Array Value) (b:c.size=18) (w:World):(Instr.buildSlice 93 1 #[(0,.agg c)]).run Tryz.prog w = .ok (.slice (some ⟨w.heap.size,0,none⟩) 1 1) (w.alloc (.cells c 99)):=by
 obtain⟨l⟩:=c;match l,b with
 | [a0,a1,a2,a3,a4,a5,a6,a7,a8,a9,a10,a11,a12,a13,a14,a15,a16,a17],_=>exact Ic_ a0 a1 a2 a3 a4 a5 a6 a7 a8 a9 a10 a11 a12 a13 a14 a15 a16 a17 w
theorem Fb_ {op:Oper} {a:Act} {K:Act->World->Prop} {Q:Exit->Act->World->Prop} {w:World} (x:Operand) (b:op.op = .buildSlice 93 1 #[(0,x)]) {c:Array Value} (e:a.eval x = .agg c) (f:c.size=18) (h:K (a.put op.dst (.slice (some ⟨w.heap.size,0,none⟩) 1 1)) (w.alloc (.cells c 99))):op.wp Tryz.prog a w K Q:=by unfold Oper.wp execOp;simp only[b,List.map_toArray,List.map_cons,List.map_nil,e,Sem.run_bind,Sem.run_pure,Km_ c f w,Result.andThen_ok];exact h
theorem g6_ {v:h_} (h:Y_ v):v.list=[]:=by rcases bp_ h with⟨_,e⟩ | ⟨_,e⟩ | ⟨_,_,e⟩ | ⟨_,e⟩<;>(rw[e];rfl)
theorem Kn_ {t:d_} (h:dh_ t=true) (o:OkT t) {w:World} {F:Nat->Prop} {f:Nat->Value} (r:∀i,i<3->VRd w F (t.get i) (.agg (c_ (t.get i) (f i)))):(∀i,i<3->∃A b,f i = .slice A 0 b)/\∀w F,TrS w F t (L_ t f):=by
 have k:=dg_ h o
 have g:∀i,i<3->∃A b,f i = .slice A 0 b:=λi hi=>by
  obtain⟨A,b,e,_,_⟩:=(r i hi).inv;injection e with e;have:=congrArg (λa:Array Value=>a[5]?) e;rw[g6_ (k.get i)]at this;exact⟨A,b,by simpa [c_] using this⟩
 exact⟨g,λ_ _=>⟨k,λn=>(o.get n).fit,f,g,rfl⟩⟩
theorem Fc_ {w w2:World} (hb:Below w.heap.size w w2):LdT w w2.heap.size (.slice none 0 0) [] ((w2.alloc (.cells #[.slice none 0 0,.slice none 0 0,.slice none 0 0,.slice none 0 0,.slice none 0 0,.slice none 0 0,.slice none 0 0] 97)).alloc (.cells #[.pointer (some ⟨w2.heap.size,0,none⟩)] 29)):=
 ⟨⟨hb.trans ((D_ w2 _ _).mono hb.size),hb.size,heap_alloc2_new w2 _ _,heap_alloc2_old w2 _ _⟩,x_.nil ..⟩
theorem Id_ (W:World):(Instr.build 97 #[]).run Tryz.prog W = .ok (.agg #[.slice none 0 0,.slice none 0 0,.slice none 0 0,.slice none 0 0,.slice none 0 0,.slice none 0 0,.slice none 0 0]) W:=by kernel_rfl
theorem jb_ {w w5:World} {o:Obj} (e:Turn (λb=>b=w.heap.size) (w.alloc o) w5):Below w.heap.size w w5:=
 ((Below.refl _ _).alloc (Nat.le_refl _) o).trans ⟨e.os,e.tape,e.output,e.size,λk f=>e.block k (by simp;omega) (by omega)⟩
theorem Fd_ {t:d_} {b:Nat->Value} (h:∀i,i<3->∃A f,b i = .slice A 0 f):(L_ t b).all (·.oneCell')=true:=by rw[<-Array.toArray_toList (xs:=L_ t b)];exact all_oneCell_toArray (ct_ t b λq k=>by obtain⟨A,g,e⟩:=h q k;exact⟨A,0,g,e⟩)
theorem Bg_ (L:List d_) (c3:∀t,t∈L->OkT t) (F:Nat->Prop) (A:Option Addr) (n cp:Nat) (w:World) (hF:∀g,F g->g<w.heap.size) (h:SRd 18 TrR w F L A n) (hn:n<=1000000000) (bt:M_ w) (cc:bc_ w) :
    Calls Tryz.prog 12 #[.slice A n cp] w (k9_ L w):=by
 have H1:=q_ (λ(W:World) (hb:Below w.heap.size w W)=>h.under TrR.good hb hF);have L1:=q_ h.1;have a9:=q_ c3;have HG:=q_ (And.intro bt cc);have b9:=q_ (qf_ L c3 F A n cp w hF h hn bt);unfold z_ at b9;clear h c3 hF bt cc;by_cases cv:65536<n
 ·have e1:(65536:Int)<n:=by omega
  go_enter Tryz.func12,Tryz.ntmps12
  have HR:=q_ (show ∀w',Below w.heap.size w w'->k9_ L w (.returned (.tuple #[.pointer none,.int .i64 20])) w' from λw' hb=>.inl ⟨λh2=>by have:=h2.1;have:=L1.o;omega,rfl,hb⟩);go_wp2_with fail;go_ret2;exact HR.o _ (Below.refl _ _)
 ·have e1:¬(65536:Int)<n:=by omega
  have HN:=q_ (show n<=65536 from by omega);obtain⟨m,Hm⟩:=a_ (L.all dh_);rw[Hm.o]at b9;go_enter Tryz.func12,Tryz.ntmps12
  go_wp2_with fail;refine b9.o.mono ?_;rintro e w2 ⟨rfl,cb⟩;have ck:=q_ cb;clear cb b9 e1 hn cv
  cases m with
  | false=>
   have HR:=q_ (show k9_ L w (.returned (.tuple #[.pointer none,.int .i64 20])) w2 from .inl ⟨λh2=>(by rw[Hm.o]at h2;cases h2.2),rfl,ck.o⟩);go_wp2_with fail;go_ret2;exact HR.o
  | true=>
   have ct:=q_ Hm.o;have aj:=q_ (λt (ht:t∈L)=>List.all_eq_true.1 Hm.o t ht);obtain⟨z,Hz⟩:=a_ w2.heap.size;obtain⟨w3,bm⟩:=a_ ((w2.alloc (.cells #[.slice none 0 0,.slice none 0 0,.slice none 0 0,.slice none 0 0,.slice none 0 0,.slice none 0 0,.slice none 0 0] 97)).alloc (.cells #[.pointer (some ⟨w2.heap.size,0,none⟩)] 29));have c5:=Fc_ ck.o;rw[bm.o,Hz.o]at c5;rw[Hz.o]at bm;have d0:=q_ c5;clear c5 Hm;go_upto_region 4 with ((with_reducible refine e_ (some 23) ?_);refine N_ rfl 97 #[] rfl #[] rfl (.agg #[.slice none 0 0,.slice none 0 0,.slice none 0 0,.slice none 0 0,.slice none 0 0,.slice none 0 0,.slice none 0 0]) (Id_ _) ?_)
   rw[Hz.o,bm.o];clear bm Hz;go_wp2_with fail;go_loopw [27] (λs wx=>∃(k:Nat) (S:Value),k<=n/\s = .int .i64 (k:Nat)/\Q_ (LdT w z S (L.take k) wx)) (λs _=>n-(intOf s).toNat)
   case atStart=>exact⟨0,.slice none 0 0,by omega,rfl,q_ d0.o⟩
   case round=>
    obtain⟨k,S,hk,rfl,U⟩:=hrel;by_cases d8:k<n
    ·obtain⟨y,hy⟩:∃y,L[k]?=some y:=⟨_,List.getElem?_eq_getElem (by rw[<-L1.o];exact d8)⟩;have HY:=q_ hy;obtain⟨ad,ss,rfl,_,hq,hr⟩:=TrR.cells (H1.o wr U.o.m.hb) hy;obtain⟨bw,cm⟩:=Kn_ (aj.o y (List.mem_of_getElem? hy)) (a9.o y (List.mem_of_getElem? hy)) hr;have bp:=q_ cm;have bl:=q_ (λW:World=>u4_ y ss (λi hi=>by obtain⟨A,c,e⟩:=bw i hi;exact⟨A,0,c,e⟩) W);unfold y8_ at bl;have aw:=Fd_ (t:=y) bw;clear hy hr cm bw;obtain⟨V,b7⟩:=bn_ y ss;rw[b7.o]at bl hq aw bp;have HQ:=q_ hq;have cu:=q_ aw;clear hq aw;have Z1:=q_ b7.size;have Q1:=q_ (hq_.trans (congrArg some b7.size.symm));clear b7;have e1:(0:Int)<=k:=by omega
     have e2:(k:Int)<n:=by omega
     have w1:IntKind.i64.wrap ((k:Int)+1)=(k:Int)+1:=IntWalk.i64_in _ (by have:=HN.o;omega);obtain⟨Z,ai⟩:=a_ wr.heap.size;have am:=q_ (show (wr.alloc (.cells (#[.int .i64 0,.bool false,.int .i64 0,.string ⟨#[]⟩,.string ⟨#[]⟩,.slice none 0 0,.int .i64 0,.bool false,.int .i64 0,.string ⟨#[]⟩,.string ⟨#[]⟩,.slice none 0 0,.int .i64 0,.bool false,.int .i64 0,.string ⟨#[]⟩,.string ⟨#[]⟩,.slice none 0 0]) 41)).heap[Z]?=some (.cells (#[.int .i64 0,.bool false,.int .i64 0,.string ⟨#[]⟩,.string ⟨#[]⟩,.slice none 0 0,.int .i64 0,.bool false,.int .i64 0,.string ⟨#[]⟩,.string ⟨#[]⟩,.slice none 0 0,.int .i64 0,.bool false,.int .i64 0,.string ⟨#[]⟩,.string ⟨#[]⟩,.slice none 0 0]) 41 (0,0)) from by rw[<-ai.o];exact heap_alloc_new wr _)
     go_upto_region 7 with (first
      | ((with_reducible refine e_ (some 30) ?_);refine s1_ rfl 41 _ rfl rfl V _ HQ.o Tryz.underlying41 rfl Q1.o ?_)
      | ((with_reducible refine y_ 6 ?_);refine m_ rfl 41 _ _ rfl Z (#[.int .i64 0,.bool false,.int .i64 0,.string ⟨#[]⟩,.string ⟨#[]⟩,.slice none 0 0,.int .i64 0,.bool false,.int .i64 0,.string ⟨#[]⟩,.string ⟨#[]⟩,.slice none 0 0,.int .i64 0,.bool false,.int .i64 0,.string ⟨#[]⟩,.string ⟨#[]⟩,.slice none 0 0]) V 41 (by rw[<-ai.o];rfl) rfl am.o Z1.o Q1.o cu.o ?_;intro w5 av ao))
     rw[ai.o];have ab:=q_ (show Below wr.heap.size wr w5 from jb_ (by rw[ai.o];exact ao));have aq:=q_ av;clear av ao HQ am;have x:=q_ (U.o.on ab.o);have g0:w5.drew.cell? ⟨z,0,none⟩=some S:=x.o.m.drew.cellS;have Q2:=q_ (hq_.trans (congrArg some Z1.o.symm));refine wp_region_held_drew (S:=λW'=>W'.cell? ⟨z+1,0,none⟩=some (.pointer (some ⟨z,0,none⟩))/\W'.heap[Z]?=some (.cells V 41 (0,0))) (by kernel_rfl) ⟨x.o.m.drew.cellP,aq.o⟩ λf=>?_;refine W_.o ?_;refine tkW 0 31 (.pointer (some ⟨z,0,none⟩)) f (λw C=>?_) λf=>?_
     ·have p:=C.1;unfold s_;go_simp
     (try simp only[Act.put,aT,aZ,aS]);refine tkW 1 32 (.pointer (some ⟨z,0,none⟩)) f (λw C=>?_) λf=>?_
     ·have p:=C.1;unfold s_;go_simp
     (try simp only[Act.put,aT,aZ,aS]);refine X_ 2 33 (.pointer (some ⟨z,0,none⟩)) f λf=>?_;(try simp only[Act.put,aT,aZ,aS]);refine X_ 3 34 (.pointer (some ⟨z,0,none⟩)) f λf=>?_;(try simp only[Act.put,aT,aZ,aS]);refine tkW 5 36 (.agg V) f (λw C=>?_) λf=>?_
     ·exact o_ (ab_ C.2 41 _ Tryz.underlying41 rfl Q2.o)
     (try simp only[Act.put,aT,aZ,aS]);refine bj_ 4 6 (by kernel_rfl) (by rfl) (by rfl) (λK r=>?_) λK r=>?_
     ·skip
      unfold gr_;go_simp;refine r.out _ _ f λf=>?_;clear r K;(try simp only[Act.put,aT,aZ,aS]);refine tkC 6 λK r=>?_;change Oper.wp _ ⟨some 37,_,_,_,_,_⟩ _ _ _ _;go_simp;refine (bl.o w5.drew).mono ?_;rintro e w6 ⟨rfl,N⟩;have f:w6.cell? ⟨z+1,0,none⟩=some (.pointer (some ⟨z,0,none⟩))/\w6.heap[Z]?=some (.cells V 41 (0,0)):=⟨(x.o.drew.on N).m.cellP,(N.block Z (b_ aq.o)).trans aq.o⟩;dsimp only;refine r.out _ _ f λf=>?_;clear r K;(try simp only[Act.put,aT,aZ,aS]);have u:=q_ (x.o.drew.on N);have bo:=q_ (show Below wr.heap.size wr w6 from ab.o.trans ((P_ N).mono ab.o.size));have R:=q_ f;have bi:=q_ (show (w6.alloc (.cells V 99)).cell? ⟨z+1,0,none⟩=some (.pointer (some ⟨z,0,none⟩))/\(w6.alloc (.cells V 99)).heap[Z]?=some (.cells V 41 (0,0)) from ⟨(u.o.on ((Below.refl _ _).alloc (Nat.le_refl _) _)).m.cellP,(Below.heap_alloc _ _ _ (b_ R.o.2)).trans R.o.2⟩);clear N;refine tkC 7 λK r=>?_;change Oper.wp _ ⟨some 38,_,_,_,_,_⟩ _ _ _ _;refine Fb_ (.tmp 37) rfl rfl Z1.o ?_;refine r.out _ _ bi.o λf=>?_;clear r K;(try simp only[Act.put,aT,aZ,aS]);refine tkC 8 λK r=>?_;change Oper.wp _ ⟨some 39,_,_,_,_,_⟩ _ _ _ _;refine pd_ (.tmp 35) (.tmp 38) rfl rfl u.o.own (show (L.take k).length=k from by rw[List.length_take,<-L1.o];omega) rfl bp.o (by have:=HN.o;omega) (λb hb=>hb.2) λg7 c7 D a2 E a3 a6=>?_;have B:=q_ (u.o.m.turn (Turn.of_grown E) (λb hb=>(u.o.blk b hb.symm).1));have a5:=q_ (show D.heap[Z]?=some (.cells V 41 (0,0)) from (Turn.of_grown E).heap R.o.2 (λe=>by obtain⟨cs,X,_⟩:=u.o.own;exact dj_ X R.o.2 (by decide) e.symm));have a4:=q_ (u.o.more E a3 a6 a2);clear a2 E a3 a6;refine r.out _ _ ⟨B.o.cellP,a5.o⟩ λf=>?_;clear r K;(try simp only[Act.put,aT,aZ,aS]);refine X_ 9 40 (.pointer (some ⟨z,0,none⟩)) f λf=>?_;(try simp only[Act.put,aT,aZ,aS]);refine X_ 10 41 (.pointer (some ⟨z,0,none⟩)) f λf=>?_;(try simp only[Act.put,aT,aZ,aS]);have f7:D.frozen? ⟨z,0,none⟩=false:=Lib.frozen_of_heap B.o.pc 0;have g7:D.cell? ⟨z,0,none⟩=some S:=B.o.cellS;refine tkC 11 λK r=>?_;unfold gr_;go_simp;refine r.out _ _ ⟨a4.o.m.cellP,((Turn.refl (λb=>b=z) D).setCell (p:=⟨z,0,none⟩) (.inr rfl) _).heap a5.o (λe=>by have h1:=x.o.m.c0;have h2:wr.heap.size=Z:=ai.o;have h3:=b_ U.o.m.pc;omega)⟩ λf=>?_;clear r K;(try simp only[Act.put,aT,aZ,aS]);refine⟨wpAnyH_done (by kernel_rfl) ?_ _⟩;clear f;go_wp2_with fail;go_roundw
      case rel=>exact⟨k+1,_,by omega,by go_num,q_ (by rw[f_ HY.o];exact a4.o)⟩
      case measure=>simp[intOf];omega
     ·skip
      change Oper.wp _ ⟨some 37,_,_,_,_,_⟩ _ _ _ _;go_simp;refine (bl.o w5.drew).mono ?_;rintro e w6 ⟨rfl,N⟩;have bo:=q_ (show Below w5.heap.size w5 w6 from P_ N);have g6:w6.cell? ⟨z,0,none⟩=some S:=(x.o.on bo.o).m.cellS;clear bo;have f:w6.cell? ⟨z+1,0,none⟩=some (.pointer (some ⟨z,0,none⟩))/\w6.heap[Z]?=some (.cells V 41 (0,0)):=⟨(x.o.drew.on N).m.cellP,(N.block Z (b_ aq.o)).trans aq.o⟩;dsimp only;refine r.out _ _ f λf=>?_;clear r K;(try simp only[Act.put,aT,aZ,aS]);have u:=q_ (x.o.drew.on N);have bo:=q_ (show Below wr.heap.size wr w6 from ab.o.trans ((P_ N).mono ab.o.size));have R:=q_ f;have bi:=q_ (show (w6.alloc (.cells V 99)).cell? ⟨z+1,0,none⟩=some (.pointer (some ⟨z,0,none⟩))/\(w6.alloc (.cells V 99)).heap[Z]?=some (.cells V 41 (0,0)) from ⟨(u.o.on ((Below.refl _ _).alloc (Nat.le_refl _) _)).m.cellP,(Below.heap_alloc _ _ _ (b_ R.o.2)).trans R.o.2⟩);clear N;refine bj_ 4 7 (by kernel_rfl) (by rfl) (by rfl) (λK r=>?_) λK r=>?_
      ·skip
       unfold gr_;go_simp;refine r.out _ _ f λf=>?_;clear r K;(try simp only[Act.put,aT,aZ,aS]);refine tkC 7 λK r=>?_;change Oper.wp _ ⟨some 38,_,_,_,_,_⟩ _ _ _ _;refine Fb_ (.tmp 37) rfl rfl Z1.o ?_;refine r.out _ _ bi.o λf=>?_;clear r K;(try simp only[Act.put,aT,aZ,aS]);refine tkC 8 λK r=>?_;change Oper.wp _ ⟨some 39,_,_,_,_,_⟩ _ _ _ _;refine pd_ (.tmp 35) (.tmp 38) rfl rfl u.o.own (show (L.take k).length=k from by rw[List.length_take,<-L1.o];omega) rfl bp.o (by have:=HN.o;omega) (λb hb=>hb.2) λg7 c7 D a2 E a3 a6=>?_;have B:=q_ (u.o.m.turn (Turn.of_grown E) (λb hb=>(u.o.blk b hb.symm).1));have a5:=q_ (show D.heap[Z]?=some (.cells V 41 (0,0)) from (Turn.of_grown E).heap R.o.2 (λe=>by obtain⟨cs,X,_⟩:=u.o.own;exact dj_ X R.o.2 (by decide) e.symm));have a4:=q_ (u.o.more E a3 a6 a2);clear a2 E a3 a6;refine r.out _ _ ⟨B.o.cellP,a5.o⟩ λf=>?_;clear r K;(try simp only[Act.put,aT,aZ,aS]);refine X_ 9 40 (.pointer (some ⟨z,0,none⟩)) f λf=>?_;(try simp only[Act.put,aT,aZ,aS]);refine X_ 10 41 (.pointer (some ⟨z,0,none⟩)) f λf=>?_;(try simp only[Act.put,aT,aZ,aS]);have f7:D.frozen? ⟨z,0,none⟩=false:=Lib.frozen_of_heap B.o.pc 0;have g7:D.cell? ⟨z,0,none⟩=some S:=B.o.cellS;refine tkC 11 λK r=>?_;unfold gr_;go_simp;refine r.out _ _ ⟨a4.o.m.cellP,((Turn.refl (λb=>b=z) D).setCell (p:=⟨z,0,none⟩) (.inr rfl) _).heap a5.o (λe=>by have h1:=x.o.m.c0;have h2:wr.heap.size=Z:=ai.o;have h3:=b_ U.o.m.pc;omega)⟩ λf=>?_;clear r K;(try simp only[Act.put,aT,aZ,aS]);refine⟨wpAnyH_done (by kernel_rfl) ?_ _⟩;clear f;go_wp2_with fail;go_roundw
       case rel=>exact⟨k+1,_,by omega,by go_num,q_ (by rw[f_ HY.o];exact a4.o)⟩
       case measure=>simp[intOf];omega
      ·skip
       change Oper.wp _ ⟨some 38,_,_,_,_,_⟩ _ _ _ _;refine Fb_ (.tmp 37) rfl rfl Z1.o ?_;refine r.out _ _ bi.o λf=>?_;clear r K;(try simp only[Act.put,aT,aZ,aS]);have gA:(w6.alloc (.cells V 99)).cell? ⟨z,0,none⟩=some S:=(u.o.on ((Below.refl _ _).alloc (Nat.le_refl _) _)).m.cellS;refine tkC 4 λK r=>?_;unfold gr_;go_simp;refine r.out _ _ f λf=>?_;clear r K;(try simp only[Act.put,aT,aZ,aS]);refine tkC 8 λK r=>?_;change Oper.wp _ ⟨some 39,_,_,_,_,_⟩ _ _ _ _;refine pd_ (.tmp 35) (.tmp 38) rfl rfl u.o.own (show (L.take k).length=k from by rw[List.length_take,<-L1.o];omega) rfl bp.o (by have:=HN.o;omega) (λb hb=>hb.2) λg7 c7 D a2 E a3 a6=>?_;have B:=q_ (u.o.m.turn (Turn.of_grown E) (λb hb=>(u.o.blk b hb.symm).1));have a5:=q_ (show D.heap[Z]?=some (.cells V 41 (0,0)) from (Turn.of_grown E).heap R.o.2 (λe=>by obtain⟨cs,X,_⟩:=u.o.own;exact dj_ X R.o.2 (by decide) e.symm));have a4:=q_ (u.o.more E a3 a6 a2);clear a2 E a3 a6;refine r.out _ _ ⟨B.o.cellP,a5.o⟩ λf=>?_;clear r K;(try simp only[Act.put,aT,aZ,aS]);refine X_ 9 40 (.pointer (some ⟨z,0,none⟩)) f λf=>?_;(try simp only[Act.put,aT,aZ,aS]);refine X_ 10 41 (.pointer (some ⟨z,0,none⟩)) f λf=>?_;(try simp only[Act.put,aT,aZ,aS]);have f7:D.frozen? ⟨z,0,none⟩=false:=Lib.frozen_of_heap B.o.pc 0;have g7:D.cell? ⟨z,0,none⟩=some S:=B.o.cellS;refine tkC 11 λK r=>?_;unfold gr_;go_simp;refine r.out _ _ ⟨a4.o.m.cellP,((Turn.refl (λb=>b=z) D).setCell (p:=⟨z,0,none⟩) (.inr rfl) _).heap a5.o (λe=>by have h1:=x.o.m.c0;have h2:wr.heap.size=Z:=ai.o;have h3:=b_ U.o.m.pc;omega)⟩ λf=>?_;clear r K;(try simp only[Act.put,aT,aZ,aS]);refine⟨wpAnyH_done (by kernel_rfl) ?_ _⟩;clear f;go_wp2_with fail;go_roundw
       case rel=>exact⟨k+1,_,by omega,by go_num,q_ (by rw[f_ HY.o];exact a4.o)⟩
       case measure=>simp[intOf];omega
    ·have d9:n=k:=by omega
     subst d9;have HM:=q_ (show LdT w z S L wr from by have h:=U.o;rw[List.take_of_length_le (by rw[<-L1.o];exact Nat.le_refl _)]at h;exact h);have HZ:=q_ (show w.heap.size<=z from HM.o.m.c0);clear U;go_wp2_with fail;refine (Js_ _).mono ?_;unfold k5_;rintro e w4 ⟨rfl,cd⟩;obtain⟨wc,bg⟩:=a_ (gt_ (av_ 0));have ZW:=q_ (show wc.size=3 from by rw[<-bg.o];rfl);have de:=q_ (show wc.all (·.oneCell')=true from by rw[<-bg.o];kernel_rfl);rw[bg.o];have dd:=q_ (HM.o.on cd);clear cd;obtain⟨zp,bc⟩:=a_ w4.heap.size;have am:=q_ (show (w4.alloc (.cells #[.int .i64 0,.int .i64 0,.int .i64 0] 101)).heap[zp]?=some (.cells #[.int .i64 0,.int .i64 0,.int .i64 0] 101 (0,0)) from by rw[<-bc.o];exact heap_alloc_new w4 _);have dg:=q_ (show (Tryz.prog.info? 101).map (·.size)=some wc.size from by rw[ZW.o];kernel_rfl);go_upto_region 10 with ((with_reducible refine y_ 7 ?_);refine m_ rfl 101 _ _ rfl zp (#[.int .i64 0,.int .i64 0,.int .i64 0]) wc 101 (by rw[<-bc.o];rfl) rfl am.o ZW.o dg.o de.o ?_;intro w5 av ao)
     rw[bc.o];have ab:=q_ (show Below w4.heap.size w4 w5 from jb_ (by rw[bc.o];exact ao));have x:=q_ (dd.o.on ab.o);have c8:=q_ (show w5.heap[zp]?=some (.cells (gt_ (av_ 0)) 101 (0,0)) from by rw[bg.o];exact av);clear av ao am;have p5:w5.cell? ⟨z+1,0,none⟩=some (.pointer (some ⟨z,0,none⟩)):=x.o.m.cellP;have g5:w5.cell? ⟨z,0,none⟩=some S:=x.o.m.cellS;go_wp2_with fail;refine (A2_ (av_ 0) (e7_ 0) zp w x.o.own (by have:=HN.o;have:=L1.o;omega) (λb hb=>hb.2) x.o.m.hb (λb hb=>by have:=(x.o.blk b hb).1;have:=HZ.o;omega) HG.o.1 HG.o.2 c8.o).mono ?_;rintro e w6 ⟨rfl,L6,co,ca,bb,bj⟩;have u:=q_ (show LdT w z S L6 w6 from ⟨x.o.m.turn bj (λb hb=>(x.o.blk b hb).1),bb.mono TrS.good λb hb=>⟨hb.1,Nat.lt_of_lt_of_le hb.2 bj.size⟩⟩);have d4:=q_ (bj.heap c8.o (λe=>by obtain⟨cs,X,_⟩:=x.o.own;exact dj_ X c8.o (by decide) e));have b6:=q_ (And.intro co ca);clear p5 g5 co ca bb bj;have cn:=q_ (show L6.length<=65536 from by rw[b6.o.1.length_eq];have:=HN.o;have:=L1.o;omega);have g6:w6.drew.cell? ⟨z,0,none⟩=some S:=u.o.m.cellS;go_upto_region 11 with fail;refine wp_region_held_drew (S:=λW'=>W'.cell? ⟨z+1,0,none⟩=some (.pointer (some ⟨z,0,none⟩))) (by kernel_rfl) u.o.m.drew.cellP λf=>?_;refine W_.o ?_;refine tkW 0 54 (.pointer (some ⟨z,0,none⟩)) f (λw C=>?_) λf=>?_
     ·have p:=C;unfold s_;go_simp
     (try simp only[Act.put,aT,aZ,aS]);refine tkW 1 55 (.pointer (some ⟨z,0,none⟩)) f (λw C=>?_) λf=>?_
     ·have p:=C;unfold s_;go_simp
     (try simp only[Act.put,aT,aZ,aS]);refine X_ 2 56 (.pointer (some ⟨z,0,none⟩)) f λf=>?_;(try simp only[Act.put,aT,aZ,aS]);refine X_ 3 57 (.pointer (some ⟨z,0,none⟩)) f λf=>?_;(try simp only[Act.put,aT,aZ,aS]);refine X_ 5 59 (.func (.func 53) #[] #[.pointer (some ⟨zp,0,none⟩)]) f λf=>?_;(try simp only[Act.put,aT,aZ,aS]);refine tkC 4 λK r=>?_;unfold gr_;go_simp;refine r.out _ _ f λf=>?_;clear r K;(try simp only[Act.put,aT,aZ,aS]);refine tkC 6 λK r=>?_;change Oper.wp _ ⟨some 60,_,_,_,_,_⟩ _ _ _ _;go_simp;refine (vi_ (av_ 0) (e7_ 0) zp w (w:=w6.drew) u.o.own (by have:=cn.o;omega) u.o.m.hb.drew (λb hb=>by have:=(u.o.blk b hb).1;have:=HZ.o;omega) HG.o.1 HG.o.2 d4.o).mono ?_;rintro e D ⟨s7,rfl,d1,a0,c4⟩;have HT:=q_ (show cpt (A_ (av_ 0)) L6=bb_ (A_ (av_ 0)) L from Ee_ (be_ _) b6.o.1 (b6.o.2.imp λh=>by omega) (λa ha b hb h0=>io_ (e7_ 0) (dg_ (aj.o a ha) (a9.o a ha)) (dg_ (aj.o b hb) (a9.o b hb)) h0));obtain⟨A7,c7,e7⟩:=a0.form;rw[HT.o]at a0 e7;obtain⟨T,bh⟩:=a_ (bb_ (A_ (av_ 0)) L);rw[bh.o]at a0 e7;obtain⟨nT,bu⟩:=a_ T.length;rw[bu.o]at e7;subst e7;have B:=q_ (u.o.m.drew.turn c4 (λb hb=>(u.o.blk b hb).1));have cl:=q_ (show x_ 99 18 TrS D (λb=>z+2<=b/\b<D.heap.size) T (.slice A7 nT c7) from a0.mono TrS.good λb hb=>⟨hb.1,Nat.lt_of_lt_of_le hb.2 c4.size⟩);clear d1 a0 c4 g6;dsimp only;refine r.out _ _ B.o.cellP λf=>?_;clear r K;(try simp only[Act.put,aT,aZ,aS]);refine X_ 7 61 (.pointer (some ⟨z,0,none⟩)) f λf=>?_;(try simp only[Act.put,aT,aZ,aS]);refine X_ 8 62 (.pointer (some ⟨z,0,none⟩)) f λf=>?_;(try simp only[Act.put,aT,aZ,aS]);have g7:D.cell? ⟨z,0,none⟩=some S:=B.o.cellS;have f7:D.frozen? ⟨z,0,none⟩=false:=Lib.frozen_of_heap B.o.pc 0;refine tkC 9 λK r=>?_;unfold gr_;go_simp;have bn:=q_ (show LdT w z (.slice A7 nT c7) T (D.setCell ⟨z,0,none⟩ (.slice A7 nT c7)) from ⟨B.o.setS _,(cl.o.turn TrS.good ((Turn.refl (λb=>b=z) D).setCell (p:=⟨z,0,none⟩) (.inr rfl) _) (λb hb=>hb.2) (λb hb e=>by have e:b=z:=e;have:=hb.1;omega)).mono TrS.good λb hb=>⟨hb.1,by have ht:=(Turn.refl (λb=>b=z) D).setCell (p:=⟨z,0,none⟩) (.inr rfl) (.slice A7 nT c7);exact Nat.lt_of_lt_of_le hb.2 ht.size⟩⟩);refine r.out _ _ bn.o.m.cellP λf=>?_;clear r K;(try simp only[Act.put,aT,aZ,aS]);refine⟨wpAnyH_done (by kernel_rfl) ?_ _⟩;clear f g7 f7 B cl
     have a7:=q_ (show (∀t,t∈T->t∈L)/\j2_ (A_ (av_ 0)) T/\T.length<=65536 from by have hl:=ek_ (be_ (av_ 0)) (l:=L) (λa ha b hb h0=>io_ (e7_ 0) (dg_ (aj.o a ha) (a9.o a ha)) (dg_ (aj.o b hb) (a9.o b hb)) h0);rw[bh.o]at hl;exact⟨λt ht=>(hl.2 t).1 ht,hl.1,by have:=H6_ (A_ (av_ 0)) L6;rw[HT.o,bh.o]at this;have:=cn.o;omega⟩);have ch:=q_ (λt (ht:t∈T)=>dg_ (aj.o t (a7.o.1 t ht)) (a9.o t (a7.o.1 t ht)));have dc:=q_ (λt (ht:t∈T) (n:Nat)=>((a9.o t (a7.o.1 t ht)).get n).fit);have d2:=q_ (show T.Nodup from a7.o.2.1.imp fun {a b} h e=>by rw[e,(be_ (av_ 0)).refl]at h;omega);have bd:=q_ (show nT<=65536 from by rw[<-bu.o];exact a7.o.2.2);obtain⟨w8,cg⟩:=a_ (D.setCell ⟨z,0,none⟩ (.slice A7 nT c7));rw[cg.o]at bn ⊢;clear cg;obtain⟨zo,c6⟩:=a_ w8.heap.size;obtain⟨w9,bz⟩:=a_ (w8.alloc (.cells #[.string ⟨#[115,112,111]⟩,.string ⟨#[115,111,112]⟩,.string ⟨#[112,115,111]⟩,.string ⟨#[112,111,115]⟩,.string ⟨#[111,115,112]⟩,.string ⟨#[111,112,115]⟩] 9));have da:=q_ (show LdX w z (.slice A7 nT c7) T s6_ zo 0 [] w9 from by rw[<-bz.o,<-c6.o];exact LdX.start bn.o);go_wp2_with fail;rw[c6.o,bz.o];clear bz c6 bn;go_loopw [65] (λs wx=>∃(j:Nat) (ss:Nat->Value),j<=6/\s = .int .i64 (j:Nat)/\Q_ (LdX w z (.slice A7 nT c7) T ss zo j [] wx/\(j<6->ss j = .slice none 0 0))) (λs _=>6-(intOf s).toNat)
     case atStart=>exact⟨0,s6_,by omega,rfl,q_ ⟨da.o,λ_=>rfl⟩⟩
     case round=>
      obtain⟨j,ss,dp,rfl,U⟩:=hrel;by_cases ci:j<6
      ·have e3:(0:Int)<=j:=by omega
       have e4:(j:Int)<6:=by omega
       have O:=q_ ci;have w3:IntKind.i64.wrap ((j:Int)+1)=(j:Int)+1:=IntWalk.i64_in _ (by omega);have q0:wr.cell? ⟨zo,j,none⟩=some (.string (gu_ j)):=U.o.1.name ci;have di:(⟨zo,0,none⟩:Addr).add j=⟨zo,j,none⟩:=by rw[Addr.add_mid,Nat.zero_add]
       go_wp2_with fail;refine (H7_ j O.o _).mono ?_;unfold k5_;rintro e bf ⟨rfl,br⟩;have b0:=q_ (U.o.1.on br);have d6:=q_ (U.o.2 O.o);clear U br q0;obtain⟨wq,bk⟩:=a_ (gt_ (av_ j));have ZQ:=q_ (show wq.size=3 from by rw[<-bk.o];rfl);have db:=q_ (show wq.all (·.oneCell')=true from by rw[<-bk.o];kernel_rfl);rw[bk.o];obtain⟨zq,ap⟩:=a_ bf.heap.size;have cf:=q_ (show (bf.alloc (.cells #[.int .i64 0,.int .i64 0,.int .i64 0] 101)).heap[zq]?=some (.cells #[.int .i64 0,.int .i64 0,.int .i64 0] 101 (0,0)) from by rw[<-ap.o];exact heap_alloc_new bf _);have df:=q_ (show (Tryz.prog.info? 101).map (·.size)=some wq.size from by rw[ZQ.o];kernel_rfl);go_upto_region 16 with ((with_reducible refine y_ 12 ?_);refine m_ rfl 101 _ _ rfl zq (#[.int .i64 0,.int .i64 0,.int .i64 0]) wq 101 (by rw[<-ap.o];rfl) rfl cf.o ZQ.o df.o db.o ?_;intro b8 bx bq)
       rw[ap.o];have ak:=q_ (b0.o.on (jb_ (w5:=b8) (by rw[ap.o];exact bq)));have cr:=q_ (show b8.heap[zq]?=some (.cells (gt_ (av_ j)) 101 (0,0)) from by rw[bk.o];exact bx);have cj:=q_ (show z+2<=zq from by have:=b_ b0.o.m.ph;have h2:bf.heap.size=zq:=ap.o;omega);clear bx bq cf b0;have dr:b8.cell? ⟨z+1,0,none⟩=some (.pointer (some ⟨z,0,none⟩)):=ak.o.m.cellP;have dn:b8.cell? ⟨z,0,none⟩=some (.slice A7 nT c7):=ak.o.m.cellS;go_wp2_with fail;go_loopw [80] (λs wx=>∃(k:Nat) (J:Nat->Value),k<=nT/\s = .int .i64 (k:Nat)/\Q_ (LdX w z (.slice A7 nT c7) T J zo j (List.range k) wx/\(k=0->J j = .slice none 0 0)/\(∀i,i<6->j<i->J i = .slice none 0 0)/\wx.heap[zq]?=some (.cells (gt_ (av_ j)) 101 (0,0)))) (λs _=>nT-(intOf s).toNat)
       case atStart=>exact⟨0,ss,by omega,rfl,q_ ⟨ak.o,λ_=>d6.o,λi hi au=>by obtain⟨_,_,_,h3⟩:=ak.o.rows i hi (by omega);exact h3 au,cr.o⟩⟩
       case round=>
        obtain⟨k,J,dl,rfl,I⟩:=hrel;by_cases d3:k<nT
        ·have dq:IntKind.i64.wrap ((k:Int)+1)=(k:Int)+1:=IntWalk.i64_in _ (by have:=bd.o;omega);have ce:=q_ d3;have ba:=q_ (show wr.drew.ownsRow 0 3 1 (J j) k (ixC (List.range k)) from by have h:=(I.o.1.rowj O.o).row;rw[List.length_range]at h;exact h);have ds:wr.drew.cell? ⟨z,1+j,none⟩=some (J j):=I.o.1.m.cellJ O.o;have aa:=q_ I.o.1.drew;go_upto_region 19 with fail;refine wp_region_held_drew (S:=λW'=>W'.cell? ⟨z+1,0,none⟩=some (.pointer (some ⟨z,0,none⟩))) (by kernel_rfl) aa.o.m.cellP λf=>?_;refine W_.o ?_;refine tkW 0 83 (.pointer (some ⟨z,0,none⟩)) f (λw C=>?_) λf=>?_
         ·have p:=C;unfold s_;go_simp
         (try simp only[Act.put,aT,aZ,aS]);refine X_ 1 84 (.int .i64 (j:Nat)) f λf=>?_;(try simp only[Act.put,aT,aZ,aS]);refine tkW 2 85 (.pointer (some ⟨z,0,none⟩)) f (λw C=>?_) λf=>?_
         ·have p:=C;unfold s_;go_simp
         (try simp only[Act.put,aT,aZ,aS]);refine X_ 3 86 (.int .i64 (j:Nat)) f λf=>?_;(try simp only[Act.put,aT,aZ,aS]);refine X_ 4 87 (.pointer (some ⟨z,0,none⟩)) f λf=>?_;(try simp only[Act.put,aT,aZ,aS]);refine X_ 5 88 (.pointer (some ⟨z,1,none⟩)) f λf=>?_;(try simp only[Act.put,aT,aZ,aS]);refine tkW 6 89 (.pointer (some ⟨z,1+j,none⟩)) f (λw C=>?_) λf=>?_
         ·exact o_ (s7_ z j O.o w)
         (try simp only[Act.put,aT,aZ,aS]);refine X_ 8 91 (.int .i64 (k:Nat)) f λf=>?_;(try simp only[Act.put,aT,aZ,aS]);refine X_ 11 94 (.pointer (some ⟨z,0,none⟩)) f λf=>?_;(try simp only[Act.put,aT,aZ,aS]);refine X_ 12 95 (.pointer (some ⟨z,1,none⟩)) f λf=>?_;(try simp only[Act.put,aT,aZ,aS]);refine bj_ 7 9 (by kernel_rfl) (by rfl) (by rfl) (λK r=>?_) λK r=>?_
         ·skip
          unfold gr_;go_simp;refine r.out _ _ f λf=>?_;clear r K;(try simp only[Act.put,aT,aZ,aS]);refine tkC 9 λK r=>?_;unfold gr_;go_simp;refine r.out _ _ (show (wr.alloc (.cells #[.int .i64 (k:Nat)] 3)).drew.cell? ⟨z+1,0,none⟩=some (.pointer (some ⟨z,0,none⟩)) from (I.o.1.on ((Below.refl _ _).alloc (Nat.le_refl _) _)).m.drew.cellP) λf=>?_;clear r K;(try simp only[Act.put,aT,aZ,aS]);refine tkC 10 λK r=>?_;change Oper.wp _ ⟨some 93,_,_,_,_,_⟩ _ _ _ _;refine vj_ (.tmp 90) (.tmp 92) rfl (wr:=wr.drew) (k:=k) rfl List.length_range ba.o rfl (by have:=bd.o;have:=ce.o;omega) λa8 ae a1 ah M ac ag=>?_;have Y:=q_ (aa.o.m.turn (Turn.of_grown M) (λb hb=>((aa.o.rowj O.o).blk b hb.symm).1));have af:=q_ (aa.o.store (v:=.slice (some ⟨a8,0,none⟩) (k+1) ae) (ix':=List.range (k+1)) O.o M ac ag rfl (by rw[List.length_range,List.range_succ];exact ah));have b5:=q_ (show a1.heap[zq]?=some (.cells (gt_ (av_ j)) 101 (0,0)) from (Turn.of_grown M).heap I.o.2.2.2 (λe=>dj_ ba.o I.o.2.2.2 (by decide) e.symm));have c2:a1.frozen? ⟨z,1+j,none⟩=false:=Lib.frozen_of_heap Y.o.pc _;have ay:a1.cell? ⟨z,1+j,none⟩=some (J j):=Y.o.cellJ O.o;clear ah M ac ag;refine r.out _ _ Y.o.cellP λf=>?_;clear r K;(try simp only[Act.put,aT,aZ,aS]);refine tkW 13 96 (.pointer (some ⟨z,1+j,none⟩)) f (λw C=>?_) λf=>?_
          ·exact o_ (s7_ z j O.o w)
          (try simp only[Act.put,aT,aZ,aS]);refine tkC 14 λK r=>?_;unfold gr_;go_simp;refine r.out _ _ af.o.m.cellP λf=>?_;clear r K;(try simp only[Act.put,aT,aZ,aS]);refine⟨wpAnyH_done (by kernel_rfl) ?_ _⟩;clear f c2 ay;have az:=q_ (((Turn.refl (λb=>b=z) a1).setCell (p:=⟨z,1+j,none⟩) (.inr rfl) (.slice (some ⟨a8,0,none⟩) (k+1) ae)).heap b5.o (by have:=cj.o;omega));have ar:=q_ I.o.2.2.1;clear I;go_wp2_with fail;go_roundw
          case rel=>exact⟨k+1,Ib_ J j (.slice (some ⟨a8,0,none⟩) (k+1) ae),by omega,by go_num,q_ ⟨af.o,λh=>by omega,λi hi au=>(if_neg (by omega)).trans (ar.o i hi au),az.o⟩⟩
          case measure=>simp[intOf];omega
         ·skip
          unfold gr_;go_simp;refine r.out _ _ (show (wr.alloc (.cells #[.int .i64 (k:Nat)] 3)).drew.cell? ⟨z+1,0,none⟩=some (.pointer (some ⟨z,0,none⟩)) from (I.o.1.on ((Below.refl _ _).alloc (Nat.le_refl _) _)).m.drew.cellP) λf=>?_;clear r K;(try simp only[Act.put,aT,aZ,aS]);have dj:(wr.alloc (.cells #[.int .i64 (k:Nat)] 3)).drew.cell? ⟨z,1+j,none⟩=some (J j):=(I.o.1.on ((Below.refl _ _).alloc (Nat.le_refl _) _)).m.drew.cellJ O.o;refine tkC 7 λK r=>?_;unfold gr_;go_simp;refine r.out _ _ f λf=>?_;clear r K;(try simp only[Act.put,aT,aZ,aS]);refine tkC 10 λK r=>?_;change Oper.wp _ ⟨some 93,_,_,_,_,_⟩ _ _ _ _;refine vj_ (.tmp 90) (.tmp 92) rfl (wr:=wr.drew) (k:=k) rfl List.length_range ba.o rfl (by have:=bd.o;have:=ce.o;omega) λa8 ae a1 ah M ac ag=>?_;have Y:=q_ (aa.o.m.turn (Turn.of_grown M) (λb hb=>((aa.o.rowj O.o).blk b hb.symm).1));have af:=q_ (aa.o.store (v:=.slice (some ⟨a8,0,none⟩) (k+1) ae) (ix':=List.range (k+1)) O.o M ac ag rfl (by rw[List.length_range,List.range_succ];exact ah));have b5:=q_ (show a1.heap[zq]?=some (.cells (gt_ (av_ j)) 101 (0,0)) from (Turn.of_grown M).heap I.o.2.2.2 (λe=>dj_ ba.o I.o.2.2.2 (by decide) e.symm));have c2:a1.frozen? ⟨z,1+j,none⟩=false:=Lib.frozen_of_heap Y.o.pc _;have ay:a1.cell? ⟨z,1+j,none⟩=some (J j):=Y.o.cellJ O.o;clear ah M ac ag;refine r.out _ _ Y.o.cellP λf=>?_;clear r K;(try simp only[Act.put,aT,aZ,aS]);refine tkW 13 96 (.pointer (some ⟨z,1+j,none⟩)) f (λw C=>?_) λf=>?_
          ·exact o_ (s7_ z j O.o w)
          (try simp only[Act.put,aT,aZ,aS]);refine tkC 14 λK r=>?_;unfold gr_;go_simp;refine r.out _ _ af.o.m.cellP λf=>?_;clear r K;(try simp only[Act.put,aT,aZ,aS]);refine⟨wpAnyH_done (by kernel_rfl) ?_ _⟩;clear f c2 ay;have az:=q_ (((Turn.refl (λb=>b=z) a1).setCell (p:=⟨z,1+j,none⟩) (.inr rfl) (.slice (some ⟨a8,0,none⟩) (k+1) ae)).heap b5.o (by have:=cj.o;omega));have ar:=q_ I.o.2.2.1;clear I;go_wp2_with fail;go_roundw
          case rel=>exact⟨k+1,Ib_ J j (.slice (some ⟨a8,0,none⟩) (k+1) ae),by omega,by go_num,q_ ⟨af.o,λh=>by omega,λi hi au=>(if_neg (by omega)).trans (ar.o i hi au),az.o⟩⟩
          case measure=>simp[intOf];omega
        ·have cw:nT=k:=by omega
         subst cw;have cz:wr.cell? ⟨z+1,0,none⟩=some (.pointer (some ⟨z,0,none⟩)):=I.o.1.m.cellP;have d5:wr.cell? ⟨z,1+j,none⟩=some (J j):=I.o.1.m.cellJ O.o;have dh:(⟨z,1,none⟩:Addr).add j=⟨z,1+j,none⟩:=Addr.add_mid _ _ _;have cq:=q_ (Bf_ I.o.1 O.o bu.o I.o.2.1 I.o.2.2.2 HG.o.1 HG.o.2 ch.o d2.o bd.o);have ar:=q_ I.o.2.2.1;clear I;go_wp2_with fail;refine cq.o.mono ?_;rintro e dm ⟨rfl,ix',c9,bs⟩;have cy:=q_ (bs.next O.o c9);clear c9 bs cq cz d5;go_wp2_with fail;go_roundw
         case rel=>exact⟨j+1,J,by omega,by go_num,q_ ⟨cy.o,λh=>ar.o (j+1) h (by omega)⟩⟩
         case measure=>simp[intOf];omega
      ·have cx:j=6:=by omega
       subst cx;have dk:wr.cell? ⟨z+1,0,none⟩=some (.pointer (some ⟨z,0,none⟩)):=U.o.1.m.cellP;have d7:=q_ (show k9_ L w (.returned (.tuple #[.pointer (some ⟨z,0,none⟩),.int .i64 0])) wr from .inr ⟨by have:=HN.o;have:=L1.o;omega,ct.o,z,rfl,U.o.1.m.hb,by rw[bh.o];exact U.o.1.whole ch.o dc.o a7.o.2.1 a7.o.2.2⟩);clear U;go_wp2_with fail;go_ret2;exact d7.o
def Kof (T:List d_) (ix:List Nat):List d_:=ix.map λk=>T.getD k za_
theorem Ie_ {T:List d_} {ix:List Nat} {n k:Nat} {t:d_} (h1:ix[n]?=some k) (b:T[k]?=some t):(Kof T ix)[n]?=some t:=by unfold Kof;rw[List.getElem?_map,h1];simp[b]
def L7_ (c:Nat) (W:Way) (s:Value) (d:Nat) (at_ en:Nat->Nat):Array Value:=
 #[.pointer (some ⟨c,0,none⟩),.int .i64 (W.i:Nat),.int .i64 (W.j:Nat),.int .i64 (W.k:Nat),s,.int .i64 (d:Nat),.int .i64 (at_ 0:Nat),.int .i64 (en 0:Nat),.int .i64 (at_ 1:Nat),.int .i64 (en 1:Nat),.int .i64 (at_ 2:Nat),.int .i64 (en 2:Nat),.int .i64 (at_ 3:Nat),.int .i64 (en 3:Nat)]
structure xp_ (F:Nat->Prop) (c:Nat) (j:Nat) (T:List d_) (ix:List Nat) (cs:Nat->Array Value) (S s:Value) (w:World):Prop where
 st:w.cell? ⟨c,0,none⟩=some S
 row:ni_ F w cs T S
 nums:nj_ F w ix s
 ixo:l8_ (av_ j) T ix
 fc:F c
 j6:j<6
 scal:∀t,t∈T->ce_ t
 fit:∀t,t∈T->∀n,a9_ (t.get n)
 len:T.length<=65536
structure ga_ (F:Nat->Prop) (q c:Nat) (j:Nat) (T:List d_) (ix:List Nat) (cs:Nat->Array Value) (S s:Value) (d:Nat) (at_ en:Nat->Nat) (w:World):Prop where
 r:xp_ F c j T ix cs S s w
 cur:w.heap[q]?=some (.cells (L7_ c (av_ j) s d at_ en) 171 (0,0))
 fq:¬F q
 fl:∀b,F b->b<w.heap.size
section
variable {F:Nat->Prop} {q c j:Nat} {T:List d_} {ix:List Nat} {cs:Nat->Array Value} {S s:Value} {d:Nat} {at_ en:Nat->Nat} {w w':World}
theorem xp_.keep (h:xp_ F c j T ix cs S s w) (f:∀b,F b->w'.heap[b]?=w.heap[b]?):xp_ F c j T ix cs S s w':=
 ⟨(World.cell?_of_block (a:=⟨c,0,none⟩) (f c h.fc)).trans h.st,h.row.keep λ_ e=>World.cell?_of_block (f _ e),h.nums.keep λ_ e=>World.cell?_of_block (f _ e),h.ixo,h.fc,h.j6,h.scal,h.fit,h.len⟩
theorem ga_.turn (h:ga_ F q c j T ix cs S s d at_ en w) {f:Nat->Prop} (e:Turn f w w') (h1:∀b,F b->¬f b) (g:¬f q):ga_ F q c j T ix cs S s d at_ en w':=
 ⟨h.r.keep λb hb=>e.block b (h.fl b hb) (h1 b hb),e.heap h.cur g,h.fq,λb hb=>Nat.lt_of_lt_of_le (h.fl b hb) e.size⟩
theorem ga_.on (h:ga_ F q c j T ix cs S s d at_ en w) (hb:Below w.heap.size w w'):ga_ F q c j T ix cs S s d at_ en w':=
 h.turn (Turn.of_below hb) (λb f e=>by have:=h.fl b f;have e:w.heap.size<=b:=e;omega) (λe=>by have:=b_ h.cur;have e:w.heap.size<=q:=e;omega)
theorem ga_.drew (h:ga_ F q c j T ix cs S s d at_ en w):ga_ F q c j T ix cs S s d at_ en w.drew:=h.on (Below.refl _ _).drew
theorem ga_.c0 (h:ga_ F q c j T ix cs S s d at_ en w):w.cell? ⟨q,0,none⟩=some (.pointer (some ⟨c,0,none⟩)):=cell_of_heap h.cur 0
theorem ga_.c4 (h:ga_ F q c j T ix cs S s d at_ en w):w.cell? ⟨q,4,none⟩=some s:=cell_of_heap h.cur 4
theorem ga_.c5 (h:ga_ F q c j T ix cs S s d at_ en w):w.cell? ⟨q,5,none⟩=some (.int .i64 (d:Nat)):=cell_of_heap h.cur 5
theorem ga_.cw (h:ga_ F q c j T ix cs S s d at_ en w) {e:Nat} (b:e<3):w.cell? ⟨q,1+e,none⟩=some (.int .i64 ((av_ j).get e:Nat)):=by rcases (show e=0\/e=1\/e=2 by omega) with rfl | rfl | rfl<;>exact cell_of_heap h.cur _
theorem ga_.ca (h:ga_ F q c j T ix cs S s d at_ en w) {e:Nat} (b:e<4):w.cell? ⟨q,6+e*2,none⟩=some (.int .i64 (at_ e:Nat)):=by rcases (show e=0\/e=1\/e=2\/e=3 by omega) with rfl | rfl | rfl | rfl<;>exact cell_of_heap h.cur _
theorem ga_.ce (h:ga_ F q c j T ix cs S s d at_ en w) {e:Nat} (b:e<4):w.cell? ⟨q,6+e*2+1,none⟩=some (.int .i64 (en e:Nat)):=by rcases (show e=0\/e=1\/e=2\/e=3 by omega) with rfl | rfl | rfl | rfl<;>exact cell_of_heap h.cur _
theorem xp_.stand (h:xp_ F c j T ix cs S s w) {n:Nat} (V:n<ix.length):∃(D Z y C Y k:Nat) (t:d_) (x:Nat->Value),S = .slice (some ⟨D,0,none⟩) T.length Z/\s = .slice (some ⟨y,C,none⟩) ix.length Y/\ix[n]?=some k/\T[k]?=some t/\(Kof T ix)[n]?=some t/\k<T.length /\
    (∀w':World,xp_ F c j T ix cs S s w'->w'.cell? ⟨y,C+n,none⟩=some (.int .i64 (k:Nat))/\∀e,e<3->w'.rangeAt D (k*18+e*6) (c_ (t.get e) (x e)).toList)/\(∀e,e<3->∃A r,x e = .slice A 0 r):=by
 obtain⟨k,z⟩:∃k,ix[n]?=some k:=⟨_,List.getElem?_eq_getElem V⟩;have o:=h.ixo.lt (List.mem_of_getElem? z);obtain⟨t,J⟩:∃t,T[k]?=some t:=⟨_,List.getElem?_eq_getElem o⟩;obtain⟨A,r,rfl,a2,R⟩:=h.row.form;obtain⟨B,I,rfl,a3,O⟩:=h.nums;obtain⟨D,rfl,_,a0⟩:=R (by omega);obtain⟨y,C,rfl,_,a1⟩:=O (by omega);obtain⟨_,_,x,N,M⟩:=h.row.el k t J;refine⟨D,r,y,C,I,k,t,x,rfl,rfl,z,J,Ie_ z J,o,λw' L=>⟨?_,λe X i v U=>?_⟩,N⟩
 ·obtain⟨B',E,f,_,u⟩:=L.nums;injection f with f _ _;obtain⟨W,o3,b,_,g⟩:=u (by omega);rw[<-f]at b;injection b with b;injection b with b e4;subst b e4;exact g n k z
 ·obtain⟨A',E,f,_,u⟩:=L.row.form;injection f with f _ _;obtain⟨W,b,_,g⟩:=u (by omega);rw[<-f]at b;injection b with b;injection b with b;subst b;have hi:i<6:=(List.getElem?_eq_some_iff.1 U).1;rw[show k*18+e*6+i=k*18+(e*6+i) by omega,g k o (e*6+i) (by omega),M,aq_ t x e X i hi,<-Array.getElem?_toList];exact U
end
theorem dq_:(Tryz.prog.info? 39).map (·.size)=some 6:=by kernel_rfl
section
variable {P:Program} {md:Region.Mode} {ops:Array Oper} {Q:Exit->Act->World->Prop} {S:World->Prop} {fuel:Nat} {listed:Array Bool} {a:Act} {w:World}
end
structure Ko_ (q gp gv b1 b2 b3 low:Nat) (w:World):Prop where
 past:w.cell? ⟨b1,0,none⟩=some (.func (.func gp) #[] #[.pointer (some ⟨gv,0,none⟩)])
 key:w.cell? ⟨b2,0,none⟩=some (.func (.func 109) #[.pointer (some ⟨q,0,none⟩)] #[])
 low:w.cell? ⟨b3,0,none⟩=some (.int .i64 (low:Nat))
theorem Ko_.on {q b e b1 b2 b3 low:Nat} {w w':World} (h:Ko_ q b e b1 b2 b3 low w) (hb:Below w.heap.size w w'):Ko_ q b e b1 b2 b3 low w':=
 ⟨(hb.cell (p:=⟨b1,0,none⟩) (bt_ h.past)).trans h.past,(hb.cell (p:=⟨b2,0,none⟩) (bt_ h.key)).trans h.key,(hb.cell (p:=⟨b3,0,none⟩) (bt_ h.low)).trans h.low⟩
structure pe_ (F:Nat->Prop) (c:Nat) (T:List d_) (l:List Nat) (cs:Nat->Array Value) (S s:Value) (w:World):Prop where
 st:w.cell? ⟨c,0,none⟩=some S
 row:ni_ F w cs T S
 nums:nj_ F w l s
 lt:∀n,n∈l->n<T.length
 fc:F c
 fl:∀b,F b->b<w.heap.size
structure Bh_ (F:Nat->Prop) (c:Nat) (T:List d_) (l:List Nat) (cs:Nat->Array Value) (S s:Value) (b1 b2 b3 b4 p:Nat) (P:d_) (ps:Nat->Value) (w:World):Prop where
 r:pe_ F c T l cs S s w
 v1:w.cell? ⟨b1,0,none⟩=some (.pointer (some ⟨c,0,none⟩))
 v2:w.cell? ⟨b2,0,none⟩=some s
 v3:w.cell? ⟨b3,0,none⟩=some (.int .i64 (p:Nat))
 v4:w.heap[b4]?=some (.cells (L_ P ps) 99 (0,0))
section
variable {F:Nat->Prop} {c:Nat} {T:List d_} {l:List Nat} {cs:Nat->Array Value} {S s:Value} {b1 b2 b3 b4 p:Nat} {P:d_} {ps:Nat->Value} {w w':World}
theorem pe_.turn (h:pe_ F c T l cs S s w) {i:Nat->Prop} (g:Turn i w w') (h1:∀b,F b->¬i b):pe_ F c T l cs S s w':=
 have f:∀b,F b->w'.heap[b]?=w.heap[b]?:=λb hb=>g.block b (h.fl b hb) (h1 b hb)
 ⟨(World.cell?_of_block (a:=⟨c,0,none⟩) (f c h.fc)).trans h.st,h.row.keep λ_ e=>World.cell?_of_block (f _ e),h.nums.keep λ_ e=>World.cell?_of_block (f _ e),h.lt,h.fc,λb hb=>Nat.lt_of_lt_of_le (h.fl b hb) g.size⟩
theorem pe_.on (h:pe_ F c T l cs S s w) (hb:Below w.heap.size w w'):pe_ F c T l cs S s w':=
 h.turn (Turn.of_below hb) (λb f e=>by have:=h.fl b f;have e:w.heap.size<=b:=e;omega)
theorem Bh_.on (h:Bh_ F c T l cs S s b1 b2 b3 b4 p P ps w) (hb:Below w.heap.size w w'):Bh_ F c T l cs S s b1 b2 b3 b4 p P ps w':=
 ⟨h.r.on hb,(hb.cell (p:=⟨b1,0,none⟩) (bt_ h.v1)).trans h.v1,(hb.cell (p:=⟨b2,0,none⟩) (bt_ h.v2)).trans h.v2,(hb.cell (p:=⟨b3,0,none⟩) (bt_ h.v3)).trans h.v3,(hb.block b4 (b_ h.v4)).trans h.v4⟩
theorem Bh_.drew (h:Bh_ F c T l cs S s b1 b2 b3 b4 p P ps w):Bh_ F c T l cs S s b1 b2 b3 b4 p P ps w.drew:=h.on (Below.refl _ _).drew
theorem pe_.stand (h:pe_ F c T l cs S s w) {n k:Nat} (I:l[n]?=some k):∃(C Y y z X:Nat) (t:d_) (x:Nat->Value),S = .slice (some ⟨C,0,none⟩) T.length Y/\s = .slice (some ⟨y,z,none⟩) l.length X/\T[k]?=some t/\k<T.length /\
    (∀w':World,pe_ F c T l cs S s w'->w'.cell? ⟨y,z+n,none⟩=some (.int .i64 (k:Nat))/\∀e,e<3->w'.rangeAt C (k*18+e*6) (c_ (t.get e) (x e)).toList)/\(∀e,e<3->∃A r,x e = .slice A 0 r):=by
 have hn:n<l.length:=(List.getElem?_eq_some_iff.1 I).1;have o:=h.lt k (List.mem_of_getElem? I);obtain⟨t,M⟩:∃t,T[k]?=some t:=⟨_,List.getElem?_eq_getElem o⟩;obtain⟨A,r,rfl,a1,R⟩:=h.row.form;obtain⟨B,E,rfl,a2,O⟩:=h.nums;obtain⟨C,rfl,_,Z⟩:=R (by omega);obtain⟨y,z,rfl,_,a0⟩:=O (by omega);obtain⟨_,_,x,N,L⟩:=h.row.el k t M;refine⟨C,r,y,z,E,t,x,rfl,rfl,M,o,λw' J=>⟨?_,λe W i v U=>?_⟩,N⟩
 ·obtain⟨B',D,f,_,u⟩:=J.nums;injection f with f _ _;obtain⟨V,o3,b,_,g⟩:=u (by omega);rw[<-f]at b;injection b with b;injection b with b e4;subst b e4;exact g n k I
 ·obtain⟨A',D,f,_,u⟩:=J.row.form;injection f with f _ _;obtain⟨V,b,_,g⟩:=u (by omega);rw[<-f]at b;injection b with b;injection b with b;subst b;have hi:i<6:=(List.getElem?_eq_some_iff.1 U).1;rw[show k*18+e*6+i=k*18+(e*6+i) by omega,g k o (e*6+i) (by omega),L,aq_ t x e W i hi,<-Array.getElem?_toList];exact U
end
section
variable {F:Nat->Prop} {c:Nat} {T:List d_} {l:List Nat} {cs:Nat->Array Value} {S s:Value} {b1 b2 b3 b4 p:Nat} {P:d_} {ps:Nat->Value} {w w':World}
end
structure Kp_ (F:Nat->Prop) (c:Nat) (T:List d_) (cs:Nat->Array Value) (S:Value) (z z8:Nat) (P:d_) (ps:Nat->Value) (j:Nat) (w0:World) (e:Nat) (l:List Nat) (s:Value) (wx:World):Prop where
 r:pe_ F c T l cs S s wx
 v1:wx.cell? ⟨z,0,none⟩=some (.pointer (some ⟨c,0,none⟩))
 v2:wx.heap[z8]?=some (.cells #[s] 94 (0,0))
 v4:wx.heap[z+1]?=some (.cells (L_ P ps) 99 (0,0))
 hb:Below w0.heap.size w0 wx
 mid:ky_ (av_ j) T P e l
 z8z:w0.heap.size<=z8/\z8≠z/\z8≠z+1
 ll:l.length<=65536
theorem Kp_.next {F:Nat->Prop} {c:Nat} {T:List d_} {cs:Nat->Array Value} {S:Value} {z i:Nat} {P:d_} {ps:Nat->Value} {j:Nat} {w0:World} {e:Nat} {l:List Nat} {s:Value} {v o:World} (h:Kp_ F c T cs S z i P ps j w0 e l s v) (C:∀b,F b->b<w0.heap.size) (hb:Below v.heap.size v o) {y:Nat} {t:List Nat} {n:Value}
    (x:ky_ (av_ j) T P y t) (D:∀w',nj_ F w' l s->nj_ F w' t n) (B:t.length<=l.length):Kp_ F c T cs S z i P ps j w0 y t n (o.setCell ⟨i,0,none⟩ n):=by
 have f:=(Turn.refl (λb=>b=i) o).setCell (p:=⟨i,0,none⟩) (.inr rfl) n;have g:=(h.r.on hb).turn f (λb A e=>by have:=C b A;have:=h.z8z.1;omega);have v2:=(hb.block i (b_ h.v2)).trans h.v2;have v1:=(hb.cell (p:=⟨z,0,none⟩) (bt_ h.v1)).trans h.v1;have v4:=(hb.block (z+1) (b_ h.v4)).trans h.v4;have u:=h.hb.trans (hb.mono h.hb.size);refine⟨⟨g.st,g.row,D _ g.nums,x.lt,g.fc,g.fl⟩,?_,heap_setCell_same o i 0 _ _ n v2,f.heap v4 (λe=>h.z8z.2.2 e.symm),u.trans ⟨f.os,f.tape,f.output,f.size,λk E=>f.block k (Nat.lt_of_lt_of_le E u.size) (λe=>by have:=h.z8z.1;omega)⟩,x,h.z8z,Nat.le_trans B h.ll⟩;exact (World.cell?_of_block (a:=⟨z,0,none⟩) (f.block z (bt_ v1) (λe=>h.z8z.2.1 e.symm))).trans v1
theorem If_ (A B:Option Addr) (ca q cb:Nat) (f:Value) (w:World) :
    Calls Tryz.prog 193 #[.slice A 0 ca,.slice B q cb,f] w (z_ (decide (q=0)) w):=by
 unfold z_;by_cases h:q=0
 ·subst h;go_enter Tryz.func193,Tryz.ntmps193
  go_wp2_with fail;go_loopw [17] (λs e=>s = .int .i64 0/\e=w) (λ_ _=>0)
  case atStart=>exact⟨rfl,rfl⟩
  case round=>
   obtain⟨rfl,rfl⟩:=hrel;go_wp2_with fail;go_ret;exact⟨rfl,Below.refl _ _⟩
 ·have g:((0:Int) != (q:Int))=true:=by simp;omega
  have b:decide (q=0)=false:=decide_eq_false h;rw[b];go_enter Tryz.func193,Tryz.ntmps193
  go_wp2_with fail;go_ret;exact⟨rfl,Below.refl _ _⟩
theorem Bi_ (a b:h_) (V:a.list=[]) (A B:Option Addr) (ca cb:Nat) (w:World) :
    Calls Tryz.prog 123 #[.agg (c_ a (.slice A 0 ca)),.agg (c_ b (.slice B b.list.length cb))] w (z_ (c0_ a b) w):=by
 obtain⟨k,t,n,s,x,l⟩:=a;obtain⟨J,E,C,D,u,i⟩:=b;simp only[h_.list]at V;subst V;unfold c_;simp only[h_.kind,h_.truth,h_.num,h_.text,h_.extra,h_.list];obtain⟨q,U⟩:=a_ i.length;rw[U.o];have z:=q_ (D_ w (.cells #[.int .i64 k,.bool t,.int .i64 n,.string s,.string x,.slice A 0 ca] 39) (.cells #[.int .i64 J,.bool E,.int .i64 C,.string D,.string u,.slice B q cb] 39));have R:=q_ (λ(f:Value) (W:World)=>If_ A B ca q cb f W);by_cases h1:k=J
 ·subst h1;by_cases N:t=E
  ·subst N;by_cases L:n=C
   ·subst L;by_cases I:s=D
    ·subst I;by_cases M:x=u
     ·subst M
      have hb:decide (q=0)=c0_ (.mk k t n s x []) (.mk k t n s x i):=by
       unfold c0_;rw[<-U.o]
       cases i with
       | nil=>simp
       | cons y r=>simp
      have O:=q_ hb;unfold z_ at R;obtain⟨v,Y⟩:=a_ (decide (q=0));rw[Y.o]at R O;clear hb Y;go_enter Tryz.func123,Tryz.ntmps123
      go_wp2_with fail;refine (R.o _ _).mono ?_;rintro e w5 ⟨rfl,X⟩;go_wp2_with fail;go_ret;exact B_ O.o (z.o.trans (X.mono z.o.size))
     ·have t5:=by_ M;have g:=cb_ (a:=.mk k t n s x []) (b:=.mk k t n s u i) (by simp[M]);have h:=q_ g;clear g M;go_enter Tryz.func123,Tryz.ntmps123
      go_wp2_with fail;go_ret;exact B_ h.o.symm z.o
    ·have t4:=by_ I;have g:=cb_ (a:=.mk k t n s x []) (b:=.mk k t n D u i) (by simp[I]);have h:=q_ g;clear g I;go_enter Tryz.func123,Tryz.ntmps123
     go_wp2_with fail;go_ret;exact B_ h.o.symm z.o
   ·have t3:(n==C)=false:=by simpa using L
    have g:=cb_ (a:=.mk k t n s x []) (b:=.mk k t C D u i) (by simp[L]);have h:=q_ g;clear g L;go_enter Tryz.func123,Tryz.ntmps123
    go_wp2_with fail;go_ret;exact B_ h.o.symm z.o
  ·have Z:(t==E)=false:=by simpa using N
   have g:=cb_ (a:=.mk k t n s x []) (b:=.mk k E C D u i) (by simp[N]);have h:=q_ g;clear g N;go_enter Tryz.func123,Tryz.ntmps123
   go_wp2_with fail;go_ret;exact B_ h.o.symm z.o
 ·have t1:(k==J)=false:=by simpa using h1
  have g:=cb_ (a:=.mk k t n s x []) (b:=.mk J E C D u i) (by simp[h1]);have h:=q_ g;clear g h1;go_enter Tryz.func123,Tryz.ntmps123
  go_wp2_with fail;go_ret;exact B_ h.o.symm z.o
end
section
open Go Go.RowKit Go.Shelf Go.Lib Go.Sort Go.Proofs Go.Maps
end
section
open Go Go.RowKit Go.Maps
def is_ (F:Nat->Prop) (w:World) (q j:Nat) (T:List d_) (c:g4_):Prop:=
 ∃(b:Nat) (ix:List Nat) (cs:Nat->Array Value) (S s:Value) (at_ en:Nat->Nat),ga_ F q b j T ix cs S s c.way.length at_ en w/\iq_ (Kof T ix) (av_ j) c at_ en
section
variable {F:Nat->Prop} {q c j:Nat} {T:List d_} {ix:List Nat} {cs:Nat->Array Value} {S s:Value} {d:Nat} {at_ en:Nat->Nat} {w w':World}
end
theorem is_.on {F:Nat->Prop} {w w':World} {q j:Nat} {T:List d_} {c:g4_} (h:is_ F w q j T c) (hb:Below w.heap.size w w'):is_ F w' q j T c:=by obtain⟨e,ix,cs,S,s,at_,en,b,f⟩:=h;exact⟨e,ix,cs,S,s,at_,en,b.on hb,f⟩
theorem iq_.stood {K:List d_} {w:Way} {c:g4_} {at_ en:Nat->Nat} (h:iq_ K w c at_ en):decide (0<c.way.length/\at_ c.way.length<en c.way.length)=(decide (0<c.way.length) && !c.fin):=by
 by_cases h0:0<c.way.length
 ·have:=h.stands h0
  cases hf:c.fin with
  | true=>
   rw[hf]at this;rw[decide_eq_false (λh=>by have:=this.1 h.2;cases this)];simp
  | false=>
   rw[hf]at this;rw[decide_eq_true ⟨h0,this.2 rfl⟩,decide_eq_true h0];rfl
 ·rw[decide_eq_false (λh=>h0 h.1),decide_eq_false h0];rfl
theorem dr_ {P:Program} {e:Func} {a u:Tmp} {T o:TypeId} {w:World} (h:e.results=#[.cell a T,.tmp u]) {b:Array Value} {g:Nat} (t:b.getD a undef = .pointer (some ⟨g,0,none⟩)) {c:Array Value} (k:w.heap[g]?=some (.cells c o (0,0)))
    (d:TypeDesc) (n:P.underlying T=some d) (v:d.isRow=true) (hi:(P.info? T).map (·.size)=some c.size) {x:Value} (r:b.getD u undef=x):(results e b).run P w = .ok (.tuple #[.agg c,x]) w:=by
 have:=run_loadVar_mid (P:=P) w g 0 T c.toList d (k_ k) n v (by rw[Array.length_toList];exact hi);rw[Array.toArray_toList]at this;have i:b[a]?.getD undef = .pointer (some ⟨g,0,none⟩):=by rw[<-t];simp
 have f:b[u]?.getD undef=x:=by rw[<-r];simp
 simp[results,h,i,asAddr,this,f]
def nk_ (t:ByteArray):h_:=.mk 8 false 0 t ⟨#[]⟩ []
theorem Fe_ (t:d_) (W:World):(Instr.build 41 #[(0,.agg (c_ t.s (.slice none 0 0))),(1,.agg (c_ t.p (.slice none 0 0))),(2,.agg (c_ t.o (.slice none 0 0)))]).run Tryz.prog W = .ok (.agg (L_ t s6_)) W:=by kernel_rfl
section
variable {P:Program} {ops:Array Oper} {rest:List Oper} {op:Oper} {a:Act} {w:World} {Q:Exit->Act->World->Prop}
theorem Ff_ (f:op.guard=none) (ty:TypeId) (n:Nat) (b:Array (Nat×Operand)) (o:op.op = .buildSlice ty n b) (ps:Array (Nat×Value)) (g:(b.map λ(i,x)=>(i,a.eval x))=ps) (v:Value) (w':World) (k:(Instr.buildSlice ty n ps).run P w = .ok v w') (h:wpList P ops Q rest (a.put op.dst v) w'):wpList P ops Q (op::rest) a w:=
 wpList_plain f λ_ r=>by
  unfold Oper.wp execOp;simp only[o];have e:(Instr.buildSlice ty n (b.map λ(i,x)=>(i,a.eval x))).run P w = .ok v w':=by rw[g];exact k
  simp only[Sem.run_bind,Sem.run_pure,e,Result.andThen_ok];exact r _ _ h
end
def d_.set (t:d_) (p:Nat) (v:h_):d_:=if p=0 then ⟨v,t.p,t.o⟩ else if p=1 then ⟨t.s,v,t.o⟩ else ⟨t.s,t.p,v⟩
end
section
open Go
section
variable {T:List d_} {w:Way}
end
def wv (w:Way) (t:d_) (d:Nat):List h_:=[t.get (w.get 0),t.get (w.get 1),t.get (w.get 2)].take d
section
variable {T K:List d_} {w:Way}
theorem xq_ (t:d_) {d:Nat} (b:d<=3):(wv w t d).length=d:=by unfold wv;rw[List.length_take];simp only[List.length_cons,List.length_nil];omega
theorem Jt_ (t:d_) {d e:Nat} (b:e<d) (f:d<=3):(wv w t d)[e]?=some (t.get (w.get e)):=by unfold wv;rw[List.getElem?_take_of_lt b];rcases (show e=0\/e=1\/e=2 by omega) with rfl | rfl | rfl<;>rfl
theorem Bj_ {t u:d_} {d:Nat} (f:d<=3):bk_ w (wv w t d) u↔∀e,e<d->u.get (w.get e)=t.get (w.get e):=by
 constructor
 ·intro h e i;exact h e _ (Jt_ t i f)
 ·intro h e v b;have g:e<d:=by have:=(List.getElem?_eq_some_iff.1 b).1;rwa [xq_ t f]at this
  rw[Jt_ t g f]at b;injection b with b;rw[<-b];exact h e g
theorem L5_ (g:h4_ T K w) {x:d_} {d:Nat} (E:d<=3) {n m r:Nat} {s t u:d_} (v:K[n]?=some s) (k:K[m]?=some t) (A:K[r]?=some u) (h1:n<=m) (D:m<=r)
    (f:bk_ w (wv w x d) s) (o:bk_ w (wv w x d) u):bk_ w (wv w x d) t:=by
 rw[Bj_ E]at f o ⊢;intro e;induction e using Nat.strongRecOn with
 | _ e y=>
  intro h;have z:=j7_ (d:=e) (by omega) (g.le v k h1) λb i=>by rw[f b (by omega),y b i (by omega)];exact df_ _
  have B:=j7_ (d:=e) (by omega) (g.le k A D) λb i=>by rw[o b (by omega),y b i (by omega)];exact df_ _
  rw[f e h]at z;rw[o e h]at B;have I:=fe_ (t.get (w.get e)) (x.get (w.get e));have C:Y_ (x.get (w.get e)):=by rw[<-f e h];exact (g.scal' v).get _
  exact e6_ ((g.scal' k).get _) C (by omega)
def DnA (K:List d_) (w:Way) (m d:Nat) (c:g4_):Prop:=∃t,K[m]?=some t/\d<3/\c=⟨wv w t d,false⟩/\∀n u,n<m->K[n]?=some u->¬bk_ w (wv w t d) u
def UpA (K:List d_) (w:Way) (m d:Nat) (c:g4_):Prop:=∃s,K[m]?=some s/\d<3/\c=⟨wv w s (d+1),false⟩/\∀n u,m<n->K[n]?=some u->¬bk_ w (wv w s (d+1)) u
theorem Fg_ (b:0<K.length):DnA K w 0 0 ⟨[],false⟩:=⟨K[0],List.getElem?_eq_getElem b,by omega,rfl,λn u h=>absurd h (by omega)⟩
end
end
section
open Go Go.RowKit Go.Maps
theorem zc_:(Tryz.prog.info? 41).map (λi=>(i.zero,i.size,i.bytes))=some (some (.agg #[.int .i64 0,.bool false,.int .i64 0,.string ⟨#[]⟩,.string ⟨#[]⟩,.slice none 0 0,.int .i64 0,.bool false,.int .i64 0,.string ⟨#[]⟩,.string ⟨#[]⟩,.slice none 0 0,.int .i64 0,.bool false,.int .i64 0,.string ⟨#[]⟩,.string ⟨#[]⟩,.slice none 0 0]),18,240):=by kernel_rfl
theorem Fh_ {op:Oper} {a:Act} {K:Act->World->Prop} {Q:Exit->Act->World->Prop} (s x:Operand) (X:op.op = .call { callee:=.builtin .append,args:=#[s,x],argTypes:=#[22,22] })
    {wr:World} {F:Nat->Prop} {L:List d_} {S:Value} {t:d_} {c:Array Value} {n:Nat} (hS:a.eval s=S) (o:x_ 41 18 TrS wr F L S) (W:L.length=n) (hx:a.eval x = .slice (some ⟨wr.heap.size,0,none⟩) 1 1) (r:∀w F,TrS w F t c) (Z:n<=1000000) (hF:∀b,F b->b<wr.heap.size)
    (h:∀g i w',x_ 41 18 TrS w' (λb=>F b\/b=g) (L++[t]) (.slice (some ⟨g,0,none⟩) (n+1) i)->wr.grownBy w' S.ownBlock->(S.ownBlock=some g\/wr.heap.size<=g)->g<w'.heap.size->K (a.put op.dst (.slice (some ⟨g,0,none⟩) (n+1) i)) w') :
    op.wp Tryz.prog a (wr.alloc (.cells c 41)) K Q:=by
 subst W;obtain⟨Y,hi,y,D,B⟩:=info_parts zc_;obtain⟨cs,f,h6,I,hr⟩:=o;have k:c.size=18:=by obtain⟨_,_,J,_,e⟩:=r wr F;rw[e];rfl
 have v:∀u∈c.toList,u.oneCell'=true:=by obtain⟨_,_,J,V,e⟩:=r wr F;rw[e];exact ct_ t J λq O=>by obtain⟨A,N,e⟩:=V q O;exact⟨A,0,N,e⟩
 refine wp_append_lies _ s x _ X 0 41 Y _ 18 240 Tryz.underlying22 hi y D B rfl (by decide) S L.length (I_ cs L.length) hS (f.alloc _) ⟨wr.heap.size,0,none⟩ 1 1 c.toList hx (by rw[Array.length_toList,k]) (World.news_of_block (heap_alloc_new wr _)) v (by omega) (by unfold maxLen;omega) (by omega) (Nat.zero_le _) (wr.heap.size+1) (by simp) λg i w' h1 h2 R M=>?_;have z:=aa_ h2;have C:S.ownBlock=some g\/wr.heap.size<=g:=R.imp id (λe=>by rw[e];omega);have E:=x_.snoc (x:=t) (c:=c) (G:=λ_=>False) TrS.good ⟨cs,f,h6,I,hr⟩ (r _ _) k (λb hb=>hb.elim) hF (λb hb=>hb.elim) (λa0 U=>by rw[s5_ U f];exact h1) z C;exact h g i w' (E.mono TrS.good λb hb=>by rcases hb with hb | hb | hb;exact .inl hb;exact hb.elim;exact .inr hb) z C M
theorem Fi_ (r B v y u o t A z x e k g i h n b f:Value) (w:World):(Instr.buildSlice 22 1 #[(0,.agg #[r,B,v,y,u,o,t,A,z,x,e,k,g,i,h,n,b,f])]).run Tryz.prog w = .ok (.slice (some ⟨w.heap.size,0,none⟩) 1 1) (w.alloc (.cells #[r,B,v,y,u,o,t,A,z,x,e,k,g,i,h,n,b,f] 41)):=by kernel_rfl
theorem s8_ (c:Array Value) (b:c.size=18) (w:World):(Instr.buildSlice 22 1 #[(0,.agg c)]).run Tryz.prog w = .ok (.slice (some ⟨w.heap.size,0,none⟩) 1 1) (w.alloc (.cells c 41)):=by
 obtain⟨l⟩:=c;match l,b with
 | [x0,x1,x2,x3,x4,x5,x6,x7,x8,x9,x10,x11,x12,x13,x14,x15,x16,x17],_=>exact Fi_ x0 x1 x2 x3 x4 x5 x6 x7 x8 x9 x10 x11 x12 x13 x14 x15 x16 x17 w
end
section
open Go
def WkA (K:List d_) (w:Way) (m d:Nat) (c:g4_) (wt:d_) (G:List d_):Prop:=DnA K w m d c/\(∀t,K[m]?=some t->∀e,e<d->wt.get e=t.get (w.get e))/\G=K.take m
def WkB (K:List d_) (w:Way) (m d:Nat) (c:g4_) (wt:d_) (G:List d_):Prop:=UpA K w m d c/\(∀t,K[m]?=some t->∀e,e<d+1->wt.get e=t.get (w.get e))/\G=K.take (m+1)
section
variable {T K:List d_} {w:Way} {m d:Nat} {c:g4_} {wt:d_} {G:List d_}
theorem WkA.start (f:0<K.length) (wt:d_):WkA K w 0 0 ⟨[],false⟩ wt []:=⟨Fg_ f,λ_ _ e b=>absurd b (by omega),rfl⟩
theorem WkA.len (h:WkA K w m d c wt G):c.way.length=d/\d<3/\m<K.length:=by obtain⟨⟨t,b,e,rfl,_⟩,_,_⟩:=h;exact⟨xq_ t (by omega),e,(List.getElem?_eq_some_iff.1 b).1⟩
theorem WkB.len (h:WkB K w m d c wt G):c.way.length=d+1/\d<3/\m<K.length:=by obtain⟨⟨t,b,e,rfl,_⟩,_,_⟩:=h;exact⟨xq_ t (by omega),e,(List.getElem?_eq_some_iff.1 b).1⟩
def Ls_ (m d:Nat):Nat:=8*m+d
def Lt_ (m d:Nat):Nat:=8*m+5-d
end
end
section
open Go Go.RowKit Go.Maps
def OpR:bi_ (Int×h_):=λw F o c=>∃s,c=#[.int .i64 o.1]++c_ o.2 s/\VRd w F o.2 (.agg (c_ o.2 s))
theorem OpR.good:OpR.Good:=⟨fun⟨s,e,h⟩ hk=>⟨s,e,h.keep hk⟩,fun⟨s,e,h⟩ hF=>⟨s,e,h.mono hF⟩⟩
theorem OpR.cells {w:World} {F:Nat->Prop} {L:List (Int×h_)} {A:Option Addr} {n:Nat} (h:SRd 7 OpR w F L A n) {k:Nat} {o:Int×h_} (g:L[k]?=some o) :
    ∃ad s,A=some ad/\F ad.block/\w.cell? (ad.add (k*7))=some (.int .i64 o.1)/\(∀j,j<(c_ o.2 s).size->w.cell? (((ad.add (k*7)).add 1).add j)=(c_ o.2 s)[j]?)/\VRd w F o.2 (.agg (c_ o.2 s)):=by
 obtain⟨ad,c,e,r,t,f,s,rfl,i⟩:=h.at_ g;refine⟨ad,s,e,r,?_,λj b=>?_,i⟩
 ·have:=f 0 (by omega);rw[Nat.add_zero]at this;rw[this];rfl
 ·have b:j<6:=b;have:=f (1+j) (by omega);rw[add_of_add,add_of_add,this,Array.getElem?_append_right (by show 1<=1+j;omega)];congr 1
  show 1+j-1=j;omega
structure Two (F:Nat->Prop) (w0:World) (q1 q2 j:Nat) (T:List d_) (c d:g4_) (wx:World):Prop where
 b:Below w0.heap.size w0 wx
 c1:is_ F wx q1 j T c
 c2:is_ F wx q2 j T d
 ne:q1≠q2
 l1:w0.heap.size<=q1
 l2:w0.heap.size<=q2
section
variable {F:Nat->Prop} {w0 w w':World} {q1 q2 j:Nat} {T:List d_} {c d:g4_}
theorem is_.turn {q:Nat} (h:is_ F w q j T c) {S:Nat->Prop} (g:Turn S w w') (h1:∀b,F b->¬S b) (f:¬S q):is_ F w' q j T c:=by obtain⟨k,ix,cs,S,s,at_,en,e,i⟩:=h;exact⟨k,ix,cs,S,s,at_,en,e.turn g h1 f,i⟩
theorem is_.lt {q:Nat} (h:is_ F w q j T c):q<w.heap.size:=by obtain⟨e,ix,cs,S,s,at_,en,b,f⟩:=h;exact b_ b.cur
theorem Two.on (h:Two F w0 q1 q2 j T c d w) (hb:Below w.heap.size w w'):Two F w0 q1 q2 j T c d w':=
 ⟨h.b.trans (hb.mono h.b.size),h.c1.on hb,h.c2.on hb,h.ne,h.l1,h.l2⟩
end
theorem Ig_ (w:World) (F:Nat->Prop) {v:h_} (h:v.list=[]) (A:Option Addr) (b:Nat):VRd w F v (.agg (c_ v (.slice A 0 b))):=by have:=VRd.mk (w:=w) (F:=F) v A b ⟨0,0,none⟩ (λ_=>#[]) (by rw[h];exact Nat.zero_le _) (by rw[h];intro h;cases h) (by rw[h];intro i h;cases h) (by rw[h];intro i x h;simp at h);rw[h]at this;exact this
theorem mc_ (a b:h_) (u:af_ a.list<=999999999) (F G:Nat->Prop) (f e:Value) (w:World) (n:∀g,F g->g<w.heap.size) (t:∀g,G g->g<w.heap.size) (h1:VRd w F a f) (i:VRd w G b e) :
    Calls Tryz.prog 22 #[f,e] w (z_ (c0_ a b) w):=by
 obtain⟨A,ca,rfl,_,la⟩:=h1.inv;obtain⟨B,cb,rfl,_,lb⟩:=i.inv;exact qq_ a b A B ca cb w n t la lb (λw' o k r h=>Gz_ (af_ a.list+1) a.list b.list (by omega) F G A B _ _ ca cb w' (by omega) r h o k)
structure Bk_ (v:h_):Prop where
 list:v.list=[]
 fit:a9_ v
 k5:v.kind≠5
section
variable {P:Program} {ops:Array Oper} {rest:List Oper} {op:Oper} {a:Act} {w:World} {Q:Exit->Act->World->Prop}
theorem ag_ (b:Region.wanted op (yielded ops a.tmps)=true) (ty:TypeId) (x:Operand) (k:op.op = .load ty x) {p:Addr} (f:a.eval x = .pointer (some p)) (c:Array Value) (d:TypeDesc) (g:∀j,j<c.size->w.cell? (p.add j)=c[j]?)
    (e:P.underlying ty=some d) (i:d.isRow=true) (hi:(P.info? ty).map (·.size)=some c.size) (h:wpList P ops Q rest (a.put op.dst (.agg c)) w):wpList P ops Q (op::rest) a w:=
 wpList_step λK n=>by
  rw[if_pos b];unfold Oper.wp execOp;simp only[k,f,Instr.loadAt,Instr.sureAddr,Sem.run_bind,Sem.run_pure,Result.andThen_ok,do_ w p ty c d g e i hi];exact n _ _ h
end
theorem Fj_ {w:World} {g:Nat} {c:Array Value} {T:TypeId} {b:Nat×Nat} (h:w.heap[g]?=some (.cells c T b)) (j:Nat) (_:j<c.size):w.cell? ((⟨g,0,none⟩:Addr).add j)=c[j]?:=by rw[Addr.add_mid,Nat.zero_add];exact cell_of_row w g j c T b h
theorem bu_ (a:Addr) (j:Nat):(a.add j).block=a.block:=by unfold Addr.add;split<;>rfl
end
end Go.Proofs.YtefhfadjajcmkaaGreatDoor
