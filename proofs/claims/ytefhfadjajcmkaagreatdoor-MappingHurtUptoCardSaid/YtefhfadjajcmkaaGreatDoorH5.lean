/- Two numbers held against each other by the program: printed by gen_WZ.py. -/
import Derived.Test.YtefhfadjajcmkaaGreatDoorH4
import Derived.ChangeKeysEq
import Derived.Laws.StructEq
set_option linter.unusedVariables false
set_option linter.unusedSimpArgs false
set_option maxRecDepth 100000
set_option maxHeartbeats 64000000
namespace Go.Proofs.YtefhfadjajcmkaaGreatDoor
open Go Go.RowKit
open Go.Lib (cell_of_heap)
theorem a7_ (n:Bool) (f:Nat->Nat):(V_ n f).all (·.oneCell')=true:=by
 have h:=Array.all_eq_true_iff_forall_mem.1 (o2_ f);rw[Array.all_eq_true_iff_forall_mem];intro v a;unfold V_ at a;rw[Array.mem_append]at a;rcases a with a | a
 ·simp at a;subst a;rfl
 ·exact h v a
theorem Ak_ (n:Bool) (f:Nat->Nat) (w:World):(Instr.build 293 #[(0,.bool n),(1,.agg (R_ f))]).run Tryz.prog w = .ok (.agg (V_ n f)) w:=
 run_build w _ _ _ (by kernel_rfl)
def J8_ (s:ByteArray) (w:World) (e:Ending) (w':World):Prop:=∃f:Nat->Nat,e = .returned (.tuple #[.agg (V_ (dx_ s) f),.bool true])/\Below w.heap.size w w'/\(∀i,i<16->f i<bW)/\h7_ s=sgV (dx_ s) (pv f 16)
theorem xd_ {a b:List UInt8} (c:a.all bg_=true) (hb:b.all bg_=true) (k:Nat):((a++b)++List.replicate k 48).all bg_=true:=by rw[List.all_append,List.all_append,c,hb,Bool.true_and,Bool.true_and,List.all_eq_true];intro x d;rw[List.eq_of_mem_replicate d];decide
theorem us_ (s:ByteArray) (I:c1_ s=true) (w:World) (hg:M_ w) :
    Calls Tryz.prog 301 #[.string s] w (J8_ s w):=by
 obtain⟨d,a,b,c⟩:=qz_ I;obtain⟨G,l⟩:=D7_ c
 have ar:s.size<=62:=by
  rcases Nat.lt_or_ge 62 s.size with h | h
  ·have:=ob_ h;rw[I]at this;cases this
  ·exact h
 have N:0<s.size:=by have h1:s.size=s.data.toList.length:=(a8_ s).symm;rw[h1,c.eq,List.length_append,List.length_append,List.length_cons];omega
 have g:s[0].toNat=45↔d=true:=by
  have h2:s.data.toList.head?=some s[0]:=by rw[List.head?_eq_getElem?];exact kh_ s 0 N
  have J:dx_ s=(some s[0]==some (45:UInt8)):=by unfold dx_;rw[h2]
  rw[G]at J;constructor
  ·intro h;have:s[0]=45:=UInt8.toNat_inj.1 h;rw[J,this];rfl
  ·intro h;rw[h]at J;have:s[0]=45:=by simpa using J.symm
   rw[this];rfl
 obtain⟨t,Ht⟩:=a_ (cz_ s);rw[Ht.o]at l
 have ae:d=true->s.extract 1 s.size=t:=λh=>by
  have h1:=(G3_ N (g.2 h)).2.2;rw[<-Ht.o,h1]
 have ac:d=false->s=t:=λh=>by
  apply ByteArray.ext;apply Array.toList_inj.1;rw[l,c.eq,h];rfl
 have a5:t.size=a.length+(b.length+1):=by show t.data.toList.length=_;rw[l,List.length_append,List.length_cons]
 have a8:=q_ c;have Y:=q_ G;have A:=q_ (λ(W:World) (hW:M_ W)=>sk_ s (by omega) W hW);rw[I]at A;have q:=q_ (λ(W:World) (hW:M_ W)=>show Calls Tryz.prog 295 #[.string t,.string ⟨#[46]⟩] W λe w'=>e = .returned (.tuple #[.string (bK a),.string (bK b),.bool true])/\∃n,w'=W.drewN n from by obtain⟨m,hm⟩:=hW;have:=ys_ t ⟨#[46]⟩ m W (by have:=c.la;have:=c.lb;omega) hm;rw[l,sh_ (z2_ c.da)]at this;exact this);have L:(bK b).size=b.length:=bz_ b;have Z:(bK a).size=a.length:=bz_ a;have aj:=c.lb;have ai:=c.la;obtain⟨k,p⟩:=a_ (20-b.length);have y:=q_ (λ(W:World)=>show Calls Tryz.prog 325 #[.string ⟨#[48]⟩,.int .i64 (k:Int)] W λe w'=>e = .returned (.string (bK (List.replicate k 48)))/\Below W.heap.size W w' from by have:=n9_ ⟨#[48]⟩ k W (by rw[<-p.o];omega) (by rw[<-p.o];show 1*(20-b.length)<=_;omega);have e:Lib.repeatL (⟨#[48]⟩:ByteArray).data.toList k=List.replicate k 48:=mq_ k;rw[e]at this;exact this);have V:=q_ (λ(W:World)=>ur_ (bK ((a++b)++List.replicate k 48)) (by rw[i2_];exact xd_ c.da c.db k) (by rw[bz_,List.length_append,List.length_append,List.length_replicate,<-p.o];omega) W)
 have j:∀W:World,(Op.stringOp .add (bK a) (bK b)).run Tryz.prog W = .ok (.string (bK (a++b))) W:=λW=>by
  rw[<-cj_];exact run_string_add_sum W _ _ (by rw[L,Z];omega)
 have i:∀W:World,(Op.stringOp .add (bK (a++b)) (bK (List.replicate k 48))).run Tryz.prog W = .ok (.string (bK ((a++b)++List.replicate k 48))) W:=λW=>by
  rw[show bK ((a++b)++List.replicate k 48)=bK (a++b)++bK (List.replicate k 48) from by rw[cj_]];exact run_string_add_sum W _ _ (by rw[bz_,bz_,List.length_append,List.length_replicate,<-p.o];omega)
 have aq:IntKind.i64.wrap (20-(b.length:Int))=(k:Int):=by rw[IntWalk.i64_in _ (by omega),<-p.o];omega
 have ap:(20:Int)-(b.length:Int)=(k:Int):=by rw[<-p.o];omega
 have a2:=q_ (show ax_ ((a++b)++List.replicate k 48)=ax_ (a++b)*10 ^ (20-b.length) from by rw[Hg_,p.o]);have x:=q_ (i2_ ((a++b)++List.replicate k 48));obtain⟨S3,ab⟩:=a_ (bK ((a++b)++List.replicate k 48));obtain⟨S2,a4⟩:=a_ (bK (List.replicate k 48));obtain⟨S1,a9⟩:=a_ (bK (a++b));obtain⟨Sa,a7⟩:=a_ (bK a);obtain⟨Sb,a6⟩:=a_ (bK b);rw[ab.o]at V i x;rw[a4.o]at y i;rw[a9.o]at j i;rw[a7.o]at q j;rw[a6.o]at q j L;obtain⟨z,Hz⟩:=a_ w.heap.size;obtain⟨w1,C⟩:=a_ (w.alloc (.cells #[.bool false,.int .u64 0,.int .u64 0,.int .u64 0,.int .u64 0,.int .u64 0,.int .u64 0,.int .u64 0,.int .u64 0,.int .u64 0,.int .u64 0,.int .u64 0,.int .u64 0,.int .u64 0,.int .u64 0,.int .u64 0,.int .u64 0] 293));have u:(#[.bool false,.int .u64 0,.int .u64 0,.int .u64 0,.int .u64 0,.int .u64 0,.int .u64 0,.int .u64 0,.int .u64 0,.int .u64 0,.int .u64 0,.int .u64 0,.int .u64 0,.int .u64 0,.int .u64 0,.int .u64 0,.int .u64 0]:Array Value)=V_ false (λ_=>0):=by kernel_rfl
 have D:=q_ (show Below w.heap.size w w1 from by rw[<-C.o];exact (Below.refl _ w).alloc (Nat.le_refl _) _);have X:=q_ (show w1.heap[z]?=some (.cells (V_ false (λ_=>0)) 293 (0,0)) from by rw[<-C.o,<-Hz.o,u];exact heap_alloc_new w _);have R:=q_ (g_ hg D.o);clear c G hg I u Z l a5 ai aj;go_enter Tryz.func301,Tryz.ntmps301
 go_upto_region 1 with fail;rw[C.o,Hz.o];go_wp2_with fail;refine (A.o w1 R.o).mono ?_;rintro e w2 ⟨rfl,r⟩;have am:=q_ (D.o.trans (r.mono D.o.size));have ad:=q_ ((r.block z (b_ X.o)).trans X.o);have ak:=q_ (g_ R.o r);clear r
 have e1:((s[0].toNat:Int)==45)=d:=by
  cases d with
  | true=>simp;have:=g.2 rfl;omega
  | false=>simp;intro h;have:=g.1 (by omega);cases this
 go_upto_if 15 with fail;go_cut [0] (λs0 wx=>s0 = .string t/\wx=w2)
 case first=>
  cases d with
  | true=>
   have hx:=q_ (ae rfl);go_wp2_with fail;go_meet;exact⟨rfl,rfl⟩
  | false=>
   have hx:=q_ (ac rfl);go_wp2_with fail;go_meet;exact⟨rfl,rfl⟩
 case rest=>
  obtain⟨h0,rfl⟩:=hcut;subst h0;go_wp2_with fail;refine (q.o wc ak.o).mono ?_;rintro e w3 ⟨rfl,q3,E⟩;have M:=q_ (show w3.heap[z]?=some (.cells (V_ false (λ_=>0)) 293 (0,0)) from by rw[E];exact ad.o);have S:=q_ (show Below w.heap.size w w3 from by rw[E];exact gc_ am.o q3);clear E;go_wp2_with fail;refine (y.o w3).mono ?_;rintro e w4 ⟨rfl,B⟩;have a1:=q_ ((B.block z (b_ M.o)).trans M.o);have a0:=q_ (S.o.trans (B.mono S.o.size));clear B;go_wp2_with fail;refine (V.o w4).mono ?_;rintro e w5 ⟨f,rfl,F,U,T⟩;have ag:=q_ ((F.block z (b_ a1.o)).trans a1.o);have O:=q_ (a0.o.trans (F.mono a0.o.size));have aa:=q_ U;have a3:=q_ T;clear F U T;dsimp only;rename_i hK;refine hK _ _ ?_;refine N_ rfl 293 _ rfl #[(0,.bool d),(1,.agg (R_ f))] (by kernel_rfl) (.agg (V_ d f)) (Ak_ d f _) ?_;refine m_ rfl 293 _ _ rfl z (V_ false (λ_=>0)) (V_ d f) 293 rfl rfl ag.o (by rw[v_,v_]) (by rw[v_];kernel_rfl) (a7_ d f) ?_;intro wf ah af;go_wp2_with fail;have ao:=run_loadVar_row (P:=Tryz.prog) wf z 293 293 (V_ d f) (0,0) _ ah Tryz.underlying293 rfl (by rw[v_];kernel_rfl);have c:=a8.o;refine bodyPost_ret (v:=.tuple #[.agg (V_ d f),.bool true]) (by simp[results,Tryz.results301,asAddr,ao]) rfl ⟨f,by rw[Y.o],?_,aa.o,?_⟩
  ·exact O.o.trans (af.below (λb _ h=>by have:=Hz.o;omega) O.o.size)
  ·rw[Y.o,sw_ c,a3.o,x.o,a2.o];rfl
def bx_:Array Value:=#[.bool false,.int .u64 0,.int .u64 0,.int .u64 0,.int .u64 0,.int .u64 0,.int .u64 0,.int .u64 0,.int .u64 0,.int .u64 0,.int .u64 0,.int .u64 0,.int .u64 0,.int .u64 0,.int .u64 0,.int .u64 0,.int .u64 0]
def o3_ (s:ByteArray) (f:Nat->Nat):Prop:=(∀i,i<16->f i<bW)/\h7_ s=sgV (dx_ s) (pv f 16)
def J9_ (s t:ByteArray) (w:World) (e:Ending) (w':World):Prop:=∃f g:Nat->Nat,e = .returned (.tuple #[.agg (V_ (dx_ s) f),.agg (V_ (dx_ t) g),.bool true])/\Below w.heap.size w w'/\o3_ s f/\o3_ t g
abbrev c9_ (c:Array Value):Obj:=.cells c 293 (0,0)
theorem Em_ (s t:ByteArray) (hs:c1_ s=true) (ht:c1_ t=true) (w:World) (hg:M_ w) :
    Calls Tryz.prog 264 #[.string s,.string t] w (J9_ s t w):=by
 obtain⟨z,Hz⟩:=a_ w.heap.size;obtain⟨w1,C⟩:=a_ ((w.alloc (.cells #[.bool false,.int .u64 0,.int .u64 0,.int .u64 0,.int .u64 0,.int .u64 0,.int .u64 0,.int .u64 0,.int .u64 0,.int .u64 0,.int .u64 0,.int .u64 0,.int .u64 0,.int .u64 0,.int .u64 0,.int .u64 0,.int .u64 0] 293)).alloc (.cells #[.bool false,.int .u64 0,.int .u64 0,.int .u64 0,.int .u64 0,.int .u64 0,.int .u64 0,.int .u64 0,.int .u64 0,.int .u64 0,.int .u64 0,.int .u64 0,.int .u64 0,.int .u64 0,.int .u64 0,.int .u64 0,.int .u64 0] 293));have Y:=q_ (show Below w.heap.size w w1 from by rw[<-C.o];exact D_ w _ _);have af:=q_ (show w1.heap[z]?=some (c9_ bx_) from by rw[<-C.o,<-Hz.o];exact heap_alloc2_old w _ _);have V:=q_ (show w1.heap[z+1]?=some (c9_ bx_) from by rw[<-C.o,<-Hz.o];exact heap_alloc2_new w _ _);have ab:=q_ (g_ hg Y.o);have HS:=q_ (λ(W:World) (hW:M_ W)=>us_ s hs W hW);have HT:=q_ (λ(W:World) (hW:M_ W)=>us_ t ht W hW);clear hg;go_enter Tryz.func264,Tryz.ntmps264
 go_upto_region 1 with fail;rw[C.o,Hz.o];go_wp2_with fail;refine (HS.o w1 ab.o).mono ?_;rintro e w2 ⟨f,rfl,a8,aj,aa⟩;have ao:=q_ (show o3_ s f from ⟨aj,aa⟩);have q:=q_ a8;obtain⟨L,a7⟩:=a_ (dx_ s);rw[a7.o];obtain⟨l,E⟩:=a_ w2.heap.size;obtain⟨w3,a2⟩:=a_ (w2.alloc (.cells #[.bool false,.int .u64 0,.int .u64 0,.int .u64 0,.int .u64 0,.int .u64 0,.int .u64 0,.int .u64 0,.int .u64 0,.int .u64 0,.int .u64 0,.int .u64 0,.int .u64 0,.int .u64 0,.int .u64 0,.int .u64 0,.int .u64 0] 293));have aq:=q_ (show w3.heap[l]?=some (c9_ bx_) from by rw[<-a2.o,<-E.o];exact heap_alloc_new w2 _);have U:=q_ (show Below w2.heap.size w2 w3 from by rw[<-a2.o];exact (Below.refl _ _).alloc (Nat.le_refl _) _);clear a8 aj aa;have A:=q_ (And.intro a2.o E.o)
 go_wp2_with (first
  | (refine m_ (op:=⟨none,_,_,_,_,_⟩) rfl 293 _ _ rfl w2.heap.size bx_ (V_ L f) 293 rfl rfl (by have h:=aq.o;rw[<-A.o.1,<-A.o.2]at h;exact h) (by rw[v_];rfl) (by rw[v_];kernel_rfl) (a7_ L f) ?_;intro w4 M x;rw[A.o.1]at x;rw[A.o.2]at x M ⊢))
 have am:=q_ (x.below (B:=w2.heap.size) (λb _ h=>by have:=E.o;omega) U.o.size);have r:=q_ (q.o.trans ((U.o.trans am.o).mono q.o.size));have R:=q_ M;clear M x;refine (HT.o w4 (g_ ab.o r.o)).mono ?_;rintro e w5 ⟨g,rfl,ag,ad,a9⟩;have ap:=q_ (show o3_ t g from ⟨ad,a9⟩);have p:=q_ ag;obtain⟨Z,ac⟩:=a_ (dx_ t);rw[ac.o];obtain⟨G,y⟩:=a_ w5.heap.size;obtain⟨w6,X⟩:=a_ (w5.alloc (.cells #[.bool false,.int .u64 0,.int .u64 0,.int .u64 0,.int .u64 0,.int .u64 0,.int .u64 0,.int .u64 0,.int .u64 0,.int .u64 0,.int .u64 0,.int .u64 0,.int .u64 0,.int .u64 0,.int .u64 0,.int .u64 0,.int .u64 0] 293));have b0:=q_ (show w6.heap[G]?=some (c9_ bx_) from by rw[<-X.o,<-y.o];exact heap_alloc_new w5 _);have N:=q_ (show Below w5.heap.size w5 w6 from by rw[<-X.o];exact (Below.refl _ _).alloc (Nat.le_refl _) _);clear ag ad a9;have c:=q_ (And.intro X.o y.o)
 go_upto_region 3 with (first
  | (refine m_ (op:=⟨none,_,_,_,_,_⟩) rfl 293 _ _ rfl w5.heap.size bx_ (V_ Z g) 293 rfl rfl (by have h:=b0.o;rw[<-c.o.1,<-c.o.2]at h;exact h) (by rw[v_];rfl) (by rw[v_];kernel_rfl) (a7_ Z g) ?_;intro I a1 D;rw[c.o.1]at D;rw[c.o.2]at D a1 ⊢))
 have ak:=q_ (D.below (B:=w5.heap.size) (λb _ h=>by have:=y.o;omega) N.o.size);have a0:=q_ (p.o.trans ((N.o.trans ak.o).mono p.o.size));have u:=q_ (r.o.trans (a0.o.mono r.o.size));have a5:=q_ ((a0.o.block l (b_ R.o)).trans R.o);have au:=q_ ((u.o.block z (b_ af.o)).trans af.o);have ar:=q_ ((u.o.block (z+1) (b_ V.o)).trans V.o);have ae:=q_ a1;have a6:=q_ (Y.o.trans (u.o.mono Y.o.size));have F:=q_ (show z+1<l/\l<G from ⟨by have h1:=b_ V.o;have h2:=q.o.size;have:=E.o;omega,by have h1:=b_ R.o;have h2:=p.o.size;have:=y.o;omega⟩);clear a1 D;have m:=v_ L f;have n:=v_ Z g;have o1:=a7_ L f;have o2:=a7_ Z g;obtain⟨d,a4⟩:=a_ (V_ L f);obtain⟨j,ai⟩:=a_ (V_ Z g);rw[a4.o]at a5 m o1 ⊢;rw[ai.o]at ae n o2 ⊢;have m:=q_ m;have n:=q_ n;have o1:=q_ o1;have o2:=q_ o2;have s1:=q_ (show I.drew.heap[l]?=some (c9_ d)/\I.drew.heap[G]?=some (c9_ j) from ⟨a5.o,ae.o⟩);refine wp_region_held_drew (S:=λW'=>W'.heap[l]?=some (c9_ d)/\W'.heap[G]?=some (c9_ j)) (by kernel_rfl) s1.o λa=>?_;refine W_.o ?_;refine tkW 0 21 (.agg d) a (λw T=>?_) λa=>?_
 ·exact o_ (ab_ T.1 293 _ Tryz.underlying293 rfl (by rw[m.o];kernel_rfl))
 simp only[Act.put,aT,aZ,aS];refine tkW 1 22 (.agg j) a (λw T=>?_) λa=>?_
 ·exact o_ (ab_ T.2 293 _ Tryz.underlying293 rfl (by rw[n.o];kernel_rfl))
 simp only[Act.put,aT,aZ,aS];refine X_ 2 23 (.bool true) a λa=>?_;simp only[Act.put,aT,aZ,aS];refine X_ 3 24 (.bool true) a λa=>?_;simp only[Act.put,aT,aZ,aS];refine X_ 4 25 (.bool true) a λa=>?_;simp only[Act.put,aT,aZ,aS];refine X_ 5 26 (.bool true) a λa=>?_;simp only[Act.put,aT,aZ,aS];refine tkC 6 λK hK=>?_;change Oper.wp _ ⟨none,_,_,_,_,_⟩ _ _ _ _;refine sx_ 293 _ _ rfl z bx_ d 293 rfl rfl au.o m.o (by rw[m.o];kernel_rfl) (o1.o) ?_;intro w8 a3 k;have O:=q_ (show w8.heap[l]?=some (c9_ d)/\w8.heap[G]?=some (c9_ j) from ⟨k.heap s1.o.1 (by have:=F.o;omega),k.heap s1.o.2 (by have:=F.o;omega)⟩);have b1:=q_ (show w8.heap[(z+1)]?=some (c9_ bx_) from k.heap (show I.drew.heap[(z+1)]?=_ from ar.o) (by omega));refine hK.out _ _ O.o λa=>?_;clear hK K;(try simp only[Act.put]);refine tkC 7 λK hK=>?_;change Oper.wp _ ⟨none,_,_,_,_,_⟩ _ _ _ _;refine sx_ 293 _ _ rfl (z+1) bx_ j 293 rfl rfl b1.o n.o (by rw[n.o];kernel_rfl) (o2.o) ?_;intro J ah i;have ay:=q_ (show J.heap[l]?=some (c9_ d)/\J.heap[G]?=some (c9_ j) from ⟨i.heap O.o.1 (by have:=F.o;omega),i.heap O.o.2 (by have:=F.o;omega)⟩);have b2:=q_ (show J.heap[z]?=some (c9_ d) from i.heap a3 (by omega));have aw:=q_ (show Turn (λb=>b=z\/b=z+1) I J from (show Turn _ I I.drew from (Turn.refl _ _).drew).trans ((k.mono (λb _ h=>by have h:b=z:=h;omega)).andThen (i.mono (S':=λb=>b=z\/b=z+1) (λb _ h=>by have h:b=(z+1):=h;omega)) (λb _ h=>h)));have b3:=q_ ah;refine hK.out _ _ ay.o λa=>?_;clear hK K a3 k ah i;(try simp only[Act.put]);refine X_ 8 6 (.bool true) a λa=>?_;simp only[Act.put,aT,aZ,aS];refine⟨wpAnyH_done (by kernel_rfl) ?_ _⟩;clear a;go_wp2_with fail;have az:=run_loadVar_row (P:=Tryz.prog) J z 293 293 d (0,0) _ b2.o Tryz.underlying293 rfl (by rw[m.o];kernel_rfl);have av:=run_loadVar_row (P:=Tryz.prog) J (z+1) 293 293 j (0,0) _ b3.o Tryz.underlying293 rfl (by rw[n.o];kernel_rfl);refine bodyPost_ret (v:=.tuple #[.agg d,.agg j,.bool true]) (by simp[results,Tryz.results264,asAddr,az,av]) rfl ⟨f,g,by rw[a7.o,ac.o,a4.o,ai.o],?_,ao.o,ap.o⟩;exact a6.o.trans (aw.o.below (λb _ h=>by have:=Hz.o;omega) a6.o.size)
theorem q9_ (n:Bool) (f:Nat->Nat) {i:Nat} (h:i<16):(V_ n f)[i+1]?=some (.int .u64 (f i:Int)):=by unfold V_;rw[Array.getElem?_append_right (by simp)];exact de_ f h
theorem ge_ (n:Bool) (f:Nat->Nat):(V_ n f)[0]?=some (.bool n):=by unfold V_;rw[Array.getElem?_append_left (by simp)];rfl
theorem ho_ {w:World} {b:Nat} {n:Bool} {f:Nat->Nat} (h:w.heap[b]?=some (c9_ (V_ n f))):WAt w b 1 f:=λi hi=>by
 rw[Nat.add_comm 1 i];exact (cell_of_row _ _ _ _ _ _ h).trans (q9_ n f hi)
theorem ku_ {w:World} {b:Nat} {n:Bool} {f:Nat->Nat} (h:w.heap[b]?=some (c9_ (V_ n f))):w.cell? ⟨b,0,none⟩=some (.bool n):=
 (cell_of_row _ _ _ _ _ _ h).trans (ge_ n f)
theorem g2_ {w:World} {b o:Nat} {f:Nat->Nat} (h:WAt w b o f):w.rangeAt b o (R_ f).toList:=λj v a=>by
 rw[Array.getElem?_toList]at a;have c:j<16:=by obtain⟨c,_⟩:=Array.getElem?_eq_some_iff.1 a;rwa [ac_]at c
 rw[de_ f c]at a;injection a with a;rw[h j c,a]
theorem ra_ {w:World} {b:Nat} {n:Bool} {f:Nat->Nat} (h0:w.cell? ⟨b,0,none⟩=some (.bool n)) (h:WAt w b 1 f):w.rangeAt b 0 (V_ n f).toList:=λj v a=>by
 rw[Nat.zero_add];rw[Array.getElem?_toList]at a
 cases j with
 | zero=>rw[ge_]at a;rw[h0,a]
 | succ j=>
  have c:j<16:=by obtain⟨c,_⟩:=Array.getElem?_eq_some_iff.1 a;rw[v_]at c;omega
  rw[q9_ n f c]at a;rw[Nat.add_comm j 1,h j c,a]
theorem En_ {x y c B:Nat} (h:x+c*B=y) (a:y<B):x=y:=by
 rcases Nat.eq_zero_or_pos c with h0 | h0
 ·rw[h0,Nat.zero_mul]at h;exact h
 ·have b:1*B<=c*B:=Nat.mul_le_mul_right _ h0;omega
def Lh_ (w:World) (V:Int) (z:Nat) (a:World):Prop:=∃(c b:Bool) (fa fb:Nat->Nat),a.heap[z]?=some (c9_ (V_ c fa))/\a.heap[z+1]?=some (c9_ (V_ b fb))/\a.heap[z+1+1]?=some (c9_ bx_)/\Below w.heap.size w a /\
 pv fb 16<=pv fa 16/\(∀i,i<16->fa i<bW)/\(∀i,i<16->fb i<bW)/\sgV c (pv fa 16)+sgV b (pv fb 16)=V/\c≠b
theorem Hm_ (n:Bool) (x y:Nat):sgV n (x+y)=sgV n x+sgV n y:=by cases n<;>simp[sgV]<;>omega
theorem Hn_ {a b:Bool} {x y:Nat} (h:a≠b) (c:y<=x):sgV a (x-y)=sgV a x+sgV b y:=by cases a<;>cases b<;>first | exact absurd rfl h | (simp[sgV];omega)
def Ka_ (V:Int) (w:World) (e:Ending) (w':World):Prop:=∃(a:Bool) (h:Nat->Nat),e = .returned (.agg (V_ a h))/\Below w.heap.size w w'/\(∀i,i<16->h i<bW)/\sgV a (pv h 16)=V
theorem Eo_ (k u:Bool) (f g:Nat->Nat) (hf:∀i,i<16->f i<bW) (hg:∀i,i<16->g i<bW) (a1:pv f 16+pv g 16<bW ^ 16) (w:World) :
    Calls Tryz.prog 265 #[.agg (V_ k f),.agg (V_ u g)] w (Ka_ (sgV k (pv f 16)+sgV u (pv g 16)) w):=by
 have HF:=q_ hf;have HG:=q_ hg;have b0:=q_ a1;obtain⟨z,x⟩:=a_ w.heap.size;obtain⟨P,n⟩:=mu_ k f;obtain⟨D,t⟩:=mu_ u g;obtain⟨R,A⟩:=a_ (((w.alloc (.cells P 293)).alloc (.cells D 293)).alloc (.cells #[.bool false,.int .u64 0,.int .u64 0,.int .u64 0,.int .u64 0,.int .u64 0,.int .u64 0,.int .u64 0,.int .u64 0,.int .u64 0,.int .u64 0,.int .u64 0,.int .u64 0,.int .u64 0,.int .u64 0,.int .u64 0,.int .u64 0] 293));have N:=q_ (show Below w.heap.size w R from by rw[<-A.o];exact (D_ w _ _).alloc (by simp;omega) _);have l:=q_ (show R.heap[z]?=some (c9_ (V_ k f)) from by rw[<-A.o,<-x.o,n.o,Below.heap_alloc _ _ _ (by simp;omega)];exact heap_alloc2_old w _ _);have C:=q_ (show R.heap[z+1]?=some (c9_ (V_ u g)) from by rw[<-A.o,<-x.o,t.o,Below.heap_alloc _ _ _ (by simp)];exact heap_alloc2_new w _ _);have a9:=q_ (show R.heap[z+2]?=some (c9_ bx_) from by rw[<-A.o,<-x.o];have:=heap_alloc_new ((w.alloc (.cells P 293)).alloc (.cells D 293)) (.cells bx_ 293);simp only[World.size_alloc]at this;exact this);have x0:R.cell? ⟨z,0,none⟩=some (.bool k):=ku_ l.o;have y0:R.cell? ⟨z+1,0,none⟩=some (.bool u):=ku_ C.o;clear hf hg a1;obtain⟨V,T⟩:=a_ (sgV k (pv f 16)+sgV u (pv g 16));rw[n.o,t.o,T.o];go_enter Tryz.func265,Tryz.ntmps265
 go_upto_region 1 with fail;rw[A.o,x.o];clear A;by_cases S:k=u
 ·subst S;have t1:(k==k)=true:=beq_self_eq_true _;have a3:=q_ (D2_ z 1 f g R HF.o HG.o (ho_ l.o) (λj=>frozen_of_row _ _ _ _ _ l.o) (b_ l.o));have M:=q_ (g2_ (ho_ C.o));obtain⟨u2,J⟩:=q8_ g;have a0:=q_ (show (Tryz.prog.info? 291).map (·.size)=some u2.size from by rw[<-J.o,ac_];kernel_rfl);rw[J.o]at a3 M
  go_wp2_with (first
   | ((with_reducible refine e_ (some 12) ?_);refine w_ rfl 291 _ rfl (z+1) 1 rfl u2 _ (M.o) Tryz.underlying291 rfl a0.o ?_))
  refine a3.o.mono ?_;rintro e w3 ⟨rfl,h,hh,hb,⟨c,hc⟩,a,O⟩;have ab:=q_ hh;have ac:=q_ hb;have HV:=q_ (En_ hc b0.o);have a8:=q_ ((O 0 (.inl (by decide))).trans (ku_ l.o));have a2:=q_ (show w3.heap[z+1+1]?=some (c9_ bx_) from a.heap a9.o (show ¬z+1+1=z by omega));have L:=q_ (a.below (B:=w.heap.size) (λb _ h=>by have h:b=z:=h;have:=x.o;omega) N.o.size);clear hh hb hc a O x0 y0;obtain⟨d,q⟩:=mu_ k h;have G:=q_ (ra_ a8.o ab.o);have a5:=q_ (show d.size=bx_.size from by rw[<-q.o,v_];rfl);have s:=q_ (show (Tryz.prog.info? 293).map (·.size)=some d.size from by rw[<-q.o,v_];kernel_rfl);have a4:=q_ (show d.all (·.oneCell')=true from by rw[<-q.o];exact a7_ _ _);rw[q.o]at G
  go_wp2_with (first
   | ((with_reducible refine e_ (some 14) ?_);refine w_ rfl 293 _ rfl z 0 rfl d _ (G.o) Tryz.underlying293 rfl s.o ?_)
   | ((with_reducible refine y_ 4 ?_);refine m_ rfl 293 _ _ rfl (z+1+1) bx_ d 293 rfl rfl a2.o a5.o s.o a4.o ?_;intro w4 E m))
  refine bodyPost_ret (v:=.agg d) (results_cell_row (p:=4) (ty:=293) (by kernel_rfl) _ _ (z+1+1) 293 d (0,0) _ rfl E Tryz.underlying293 rfl s.o) rfl ⟨k,h,by rw[q.o],?_,ac.o,?_⟩
  ·exact N.o.trans (L.o.trans (m.below (λb _ h=>by have h:b=z+1+1:=h;have:=x.o;omega) (Nat.le_trans N.o.size L.o.size)))
  ·rw[HV.o,<-T.o];exact Hm_ _ _ _
 ·have t1:(k==u)=false:=beq_eq_false_iff_ne.2 S;have ar:=q_ S;have I:=q_ (D4_ f g R HF.o HG.o);have M:=q_ (g2_ (ho_ l.o));have af:=q_ (g2_ (ho_ C.o));have ba:=q_ (k_ l.o);have bb:=q_ (k_ C.o);obtain⟨u1,ay⟩:=q8_ f;obtain⟨u2,J⟩:=q8_ g;have b8:=q_ (show (Tryz.prog.info? 291).map (·.size)=some u1.size from by rw[<-ay.o,ac_];kernel_rfl);have a0:=q_ (show (Tryz.prog.info? 291).map (·.size)=some u2.size from by rw[<-J.o,ac_];kernel_rfl);have am:=q_ (show (Tryz.prog.info? 293).map (·.size)=some P.size from by rw[<-n.o,v_];kernel_rfl);have aq:=q_ (show (Tryz.prog.info? 293).map (·.size)=some D.size from by rw[<-t.o,v_];kernel_rfl);have b2:=q_ (show P.all (·.oneCell')=true from by rw[<-n.o];exact a7_ _ _);have b4:=q_ (show D.all (·.oneCell')=true from by rw[<-t.o];exact a7_ _ _);have ao:=q_ (show D.size=P.size from by rw[<-n.o,<-t.o,v_,v_]);rw[ay.o]at I M;rw[J.o]at I af;obtain⟨r,Hr⟩:=a_ (uf_ (pv f 16) (pv g 16));rw[Hr.o]at I;clear S
  go_wp2_with (first
   | ((with_reducible refine e_ (some 16) ?_);refine w_ rfl 291 _ rfl z 1 rfl u1 _ (M.o) Tryz.underlying291 rfl b8.o ?_)
   | ((with_reducible refine e_ (some 18) ?_);refine w_ rfl 291 _ rfl (z+1) 1 rfl u2 _ (af.o) Tryz.underlying291 rfl a0.o ?_))
  refine I.o.mono ?_;rintro e w2 ⟨rfl,F⟩;have a7:=q_ ((F.block z (b_ l.o)).trans l.o);have a6:=q_ ((F.block (z+1) (b_ C.o)).trans C.o);have ak:=q_ (show w2.heap[z+1+1]?=some (c9_ bx_) from (F.block (z+1+1) (b_ a9.o)).trans a9.o);have U:=q_ (N.o.trans (F.mono N.o.size));clear F x0 y0;go_upto_if 20 with fail;go_cut [] (λwx=>Lh_ w V z wx)
  case first=>
   by_cases y:pv f 16<pv g 16
   ·have g0:r<0:=by rw[<-Hr.o];unfold uf_;rw[if_pos y];decide
    have Y:=q_ y;have aw:=q_ (k_ a7.o);have ad:=q_ (k_ a6.o);have ag:=q_ a7.o;have au:=q_ a6.o;rw[n.o]at ag aw;rw[t.o]at au ad;clear y
    go_wp2_with (first
     | ((with_reducible refine e_ (some 21) ?_);refine w_ rfl 293 _ rfl (z+1) 0 rfl D _ (ad.o) Tryz.underlying293 rfl aq.o ?_)
     | ((with_reducible refine e_ (some 22) ?_);refine w_ rfl 293 _ rfl z 0 rfl P _ (aw.o) Tryz.underlying293 rfl am.o ?_)
     | ((with_reducible refine y_ 2 ?_);refine m_ rfl 293 _ _ rfl z P D 293 rfl rfl ag.o ao.o aq.o b4.o ?_;intro w3 b6 a)
     | ((with_reducible refine y_ 3 ?_);refine m_ rfl 293 _ _ rfl (z+1) D P 293 rfl rfl (a.heap au.o (show ¬z+1=z by omega)) ao.o.symm am.o b2.o ?_;intro w4 E m))
    go_meet;refine⟨u,k,g,f,?_,?_,?_,?_,Nat.le_of_lt Y.o,HG.o,HF.o,(Int.add_comm _ _).trans T.o,λh=>ar.o h.symm⟩
    ·rw[t.o];exact m.heap b6 (show ¬z=z+1 by omega)
    ·rw[n.o];exact E
    ·exact m.heap (a.heap ak.o (show ¬z+1+1=z by omega)) (show ¬z+1+1=z+1 by omega)
    ·exact U.o.trans ((a.below (B:=w.heap.size) (λb _ h=>by have h:b=z:=h;have:=x.o;omega) U.o.size).trans (m.below (B:=w.heap.size) (λb _ h=>by have h:b=z+1:=h;have:=x.o;omega) (Nat.le_trans U.o.size a.size)))
   ·have g0:¬r<0:=by rw[<-Hr.o];unfold uf_;rw[if_neg y];split<;>decide
    have Y:=q_ y;clear y;go_wp2_with fail;go_meet;exact⟨k,u,f,g,a7.o,a6.o,ak.o,U.o,Nat.le_of_not_lt Y.o,HF.o,HG.o,T.o,ar.o⟩
  case rest=>
   obtain⟨na,nb,fa,fb,hx,hy,hr,ae,aa,ap,ah,W,aj⟩:=hcut;have Z:=q_ ae;have b9:=q_ aa;have az:=q_ W;have b3:=q_ aj;have X:=q_ (D3_ z 1 fa fb wc ap ah (ho_ hx) (λj=>frozen_of_row _ _ _ _ _ hx) (b_ hx) aa);have av:=q_ (g2_ (ho_ hy));have b7:=q_ (ku_ hx);have b5:=q_ hr;obtain⟨ub,ai⟩:=q8_ fb;have b1:=q_ (show (Tryz.prog.info? 291).map (·.size)=some ub.size from by rw[<-ai.o,ac_];kernel_rfl);rw[ai.o]at X av;clear hx hy hr ae aa ap ah W aj I
   go_wp2_with (first
    | ((with_reducible refine e_ (some 25) ?_);refine w_ rfl 291 _ rfl (z+1) 1 rfl ub _ (av.o) Tryz.underlying291 rfl b1.o ?_))
   refine X.o.mono ?_;rintro e w3 ⟨rfl,h,hh,hb,hp,a,O⟩;have ab:=q_ hh;have ac:=q_ hb;have HV:=q_ hp;have a8:=q_ ((O 0 (.inl (by decide))).trans b7.o);have a2:=q_ (show w3.heap[z+1+1]?=some (c9_ bx_) from a.heap b5.o (show ¬z+1+1=z by omega));have L:=q_ (a.below (B:=w.heap.size) (λb _ h=>by have h:b=z:=h;have:=x.o;omega) Z.o.size);clear hh hb hp a O;obtain⟨d,q⟩:=mu_ na h;have G:=q_ (ra_ a8.o ab.o);have a5:=q_ (show d.size=bx_.size from by rw[<-q.o,v_];rfl);have s:=q_ (show (Tryz.prog.info? 293).map (·.size)=some d.size from by rw[<-q.o,v_];kernel_rfl);have a4:=q_ (show d.all (·.oneCell')=true from by rw[<-q.o];exact a7_ _ _);rw[q.o]at G
   go_wp2_with (first
    | ((with_reducible refine e_ (some 27) ?_);refine w_ rfl 293 _ rfl z 0 rfl d _ (G.o) Tryz.underlying293 rfl s.o ?_)
    | ((with_reducible refine y_ 4 ?_);refine m_ rfl 293 _ _ rfl (z+1+1) bx_ d 293 rfl rfl a2.o a5.o s.o a4.o ?_;intro w4 E m))
   refine bodyPost_ret (v:=.agg d) (results_cell_row (p:=4) (ty:=293) (by kernel_rfl) _ _ (z+1+1) 293 d (0,0) _ rfl E Tryz.underlying293 rfl s.o) rfl ⟨na,h,by rw[q.o],?_,ac.o,?_⟩
   ·exact Z.o.trans (L.o.trans (m.below (λb _ h=>by have h:b=z+1+1:=h;have:=x.o;omega) (Nat.le_trans Z.o.size L.o.size)))
   ·rw[<-az.o,HV.o];exact Hn_ b3.o b9.o
def ut_:Array Value:=R_ (λ_=>0)
theorem Ep_ (h:Nat->Nat) (W:World):∀is:List Nat,(∀i,i∈is->i<16)->(Op.eqItems 9999 225 1 (R_ h) ut_ is).run Tryz.prog W = .ok (is.all λi=>decide (h i=0)) W:=by
 have k:Tryz.prog.underlying 225=some (.int .u64):=by kernel_rfl
 intro is;induction is with
 | nil=>intro _;rfl
 | cons i is g=>
  intro hi;have h1:=de_ h (hi i (List.mem_cons_self ..));have e:ut_[i]?=some (.int .u64 ((0:Nat):Int)):=de_ (λ_=>0) (hi i (List.mem_cons_self ..));have c:=g (λj d=>hi j (List.mem_cons_of_mem _ d));obtain⟨a,f⟩:=a_ (R_ h);rw[f.o]at h1 c ⊢;obtain⟨b,hb⟩:=a_ ut_;rw[hb.o]at e c ⊢;simp only[Op.eqItems,Nat.mul_one,List.all_cons];go_simp;by_cases hz:h i=0
  ·rw[if_pos hz,decide_eq_true hz,Bool.true_and]
  ·rw[if_neg hz,decide_eq_false hz,Bool.false_and]
theorem y3_ {h:Nat->Nat}:∀n:Nat,pv h n=0↔∀i,i<n->h i=0:=by
 intro n;induction n with
 | zero=>exact⟨λ_ i hi=>absurd hi (Nat.not_lt_zero _),λ_=>rfl⟩
 | succ n c=>
  rw[pv,Nat.add_eq_zero_iff,c,Nat.mul_eq_zero];have d:bW ^ n≠0:=Nat.pos_iff_ne_zero.1 (Nat.pow_pos (by decide));constructor
  ·rintro⟨h1,a⟩ i hi;rcases Nat.lt_or_ge i n with b | b
   ·exact h1 i b
   ·have:i=n:=by omega
    rw[this];rcases a with a | a
    ·exact a
    ·exact absurd a d
  ·intro h1;exact⟨λi hi=>h1 i (by omega),.inl (h1 n (by omega))⟩
theorem Ho_:(Tryz.prog.info? 225).map (λi=>(i.zero,i.size,i.bytes))=some (some (.int .u64 0),1,8):=by kernel_rfl
theorem Kb_:Tryz.prog.eqGuardType Tryz.prog.depth 291=false:=by kernel_rfl
theorem Eq_ (h:Nat->Nat) (W:World):(binOp .eql 291 (.agg (R_ h)) (.agg ut_)).run Tryz.prog W = .ok (.bool (decide (pv h 16=0))) W:=by
 obtain⟨i,hi,_⟩:=info_parts Ho_;have a:Tryz.prog.cellsOf 225=1:=by kernel_rfl
 rw[run_eql_struct,run_equalIn_array W 9999 _ _ Tryz.underlying291 hi,a,Ep_ h W (List.range 16) (λi hi=>List.mem_range.1 hi)];have e:((List.range 16).all λi=>decide (h i=0))=decide (pv h 16=0):=by rw[Bool.eq_iff_iff,decide_eq_true_iff,List.all_eq_true];exact⟨λh1=>(y3_ 16).2 λi hi=>of_decide_eq_true (h1 i (List.mem_range.2 hi)),λh1 i hi=>decide_eq_true ((y3_ 16).1 h1 i (List.mem_range.1 hi))⟩
 rw[e];rfl
theorem sz_ (b:Bool) (n:Nat):(sgV b n).natAbs=n:=by
 cases b
 ·show ((n:Nat):Int).natAbs=n;omega
 ·show (-((n:Nat):Int)).natAbs=n;omega
theorem xe_ {s:ByteArray} (h:c1_ s=true):(h7_ s).natAbs<10 ^ 60:=by
 obtain⟨d,a,b,c⟩:=qz_ h
 have h1:(h7_ s).natAbs=ax_ (a++b)*10 ^ (20-b.length):=by
  rw[sw_ c]
  cases d
  ·exact sz_ false _
  ·exact sz_ true _
 rw[h1];have f:=xa_ (a++b) (by rw[List.all_append,c.da,c.db];rfl);have e:ax_ (a++b)*10 ^ (20-b.length)<10 ^ (a++b).length*10 ^ (20-b.length):=Nat.mul_lt_mul_of_pos_right f (Nat.pow_pos (by decide));rw[<-Nat.pow_add]at e;refine Nat.lt_of_lt_of_le e (Nat.pow_le_pow_right (by decide) ?_);rw[List.length_append];have:=c.la;have:=c.lb;omega
theorem Er_ {s:ByteArray} {f:Nat->Nat} (h:c1_ s=true) (a:o3_ s f):pv f 16<10 ^ 60:=by have h1:=xe_ h;rw[a.2,sz_]at h1;exact h1
theorem Kc_ {x y:Nat} (h1:x<10 ^ 60) (e:y<10 ^ 60):x+y<bW ^ 16:=by
 have f:∀x y p q r:Nat,x<p->y<p->q=p*10->q<=r->x+y<r:=λx y p q r a b c d=>by omega
 refine f x y (10 ^ 60) (10 ^ 61) _ h1 e (Nat.pow_succ ..) ?_;have g:bW ^ 16=10 ^ (9*16):=(Nat.pow_mul 10 9 16).symm;rw[g];exact Nat.pow_le_pow_right (by decide) (by decide)
theorem xf_ (n m:Bool) (f:Nat->Nat):(V_ n f).setIfInBounds 0 (.bool m)=V_ m f:=by
 apply Array.ext_getElem?;intro j
 cases j with
 | zero=>rw[Array.getElem?_setIfInBounds,if_pos rfl,if_pos (by rw[v_];decide),ge_]
 | succ j=>
  rw[Array.getElem?_setIfInBounds,if_neg (by omega)];unfold V_;rw[Array.getElem?_append_right (by simp),Array.getElem?_append_right (by simp)];rfl
theorem Hp_ {s t:ByteArray} {a:Bool} {p:Nat} (d:sgV a p=h7_ s + -h7_ t):ey_ s t=if p=0 then 0 else if a=true then -1 else 1:=by
 unfold ey_;by_cases h0:p=0
 ·rw[if_pos h0];have:=(D8_ (b:=a)).2 h0;rw[if_neg (by omega),if_neg (by omega)]
 ·rw[if_neg h0]
  cases a with
  | true=>
   have c:sgV true p = -((p:Nat):Int):=rfl;rw[if_pos rfl,if_pos (by omega)]
  | false=>
   have c:sgV false p=((p:Nat):Int):=rfl;rw[if_neg (by omega),if_pos (by omega)];rfl
theorem Hq_ {s t:ByteArray} {f g h:Nat->Nat} {a:Bool} (b:o3_ s f) (d:o3_ t g) (c:sgV a (pv h 16)=sgV (dx_ s) (pv f 16)+sgV (!dx_ t) (pv g 16)) :
    ey_ s t=if pv h 16=0 then 0 else if a=true then -1 else 1:=
 Hp_ (c.trans (by rw[Hi_,<-b.2,<-d.2]))
def y4_ (s t:ByteArray) (w:World) (e:Ending) (w':World):Prop:=e = .returned (.int .i64 (ey_ s t))/\Below w.heap.size w w'
theorem uu_ (W:World):(Instr.build 291 #[]).run Tryz.prog W = .ok (.agg ut_) W:=run_build W _ _ _ (by kernel_rfl)
theorem hp_ (s t:ByteArray) (hs:c1_ s=true) (ht:c1_ t=true) (w:World) (q:M_ w) :
    Calls Tryz.prog 212 #[.string s,.string t] w (y4_ s t w):=by
 have ay:=q_ (Em_ s t hs ht w q);have a1:=q_ (And.intro hs ht);clear hs ht q;go_enter Tryz.func212,Tryz.ntmps212
 go_wp2_with fail;refine ay.o.mono ?_;rintro e w2 ⟨f,g,rfl,a6,X,q⟩;have S:=q_ a6;have HF:=q_ X;have HG:=q_ q;obtain⟨n1,a5⟩:=a_ (dx_ s);obtain⟨r,aa⟩:=a_ (dx_ t);have a0:=q_ (λ(W:World)=>Eo_ n1 (!r) f g X.1 q.1 (Kc_ (Er_ a1.o.1 X) (Er_ a1.o.2 q)) W);rw[a5.o,aa.o];obtain⟨F,k⟩:=mu_ n1 f;obtain⟨A,j⟩:=mu_ r g;obtain⟨Y,J⟩:=mu_ (!r) g;rw[k.o,j.o];rw[k.o,J.o]at a0;have a9:=q_ (show (Tryz.prog.info? 293).map (·.size)=some F.size from by rw[<-k.o,v_];kernel_rfl);have ah:=q_ (show (Tryz.prog.info? 293).map (·.size)=some A.size from by rw[<-j.o,v_];kernel_rfl);have b3:=q_ (show (Tryz.prog.info? 293).map (·.size)=some Y.size from by rw[<-J.o,v_];kernel_rfl);have ad:=q_ (show F.all (·.oneCell')=true from by rw[<-k.o];exact a7_ _ _);have ao:=q_ (show A.all (·.oneCell')=true from by rw[<-j.o];exact a7_ _ _);have av:=q_ (show F.size=bx_.size from by rw[<-k.o,v_];rfl);have b0:=q_ (show A.size=bx_.size from by rw[<-j.o,v_];rfl);have ai:=q_ (show A.setIfInBounds 0 (.bool (!r))=Y from by rw[<-j.o,<-J.o];exact xf_ _ _ _);have ac:=q_ (show A[0]?=some (.bool r) from by rw[<-j.o];exact ge_ _ _);obtain⟨z,G⟩:=a_ w2.heap.size;obtain⟨w3,y⟩:=a_ ((w2.alloc (.cells #[.bool false,.int .u64 0,.int .u64 0,.int .u64 0,.int .u64 0,.int .u64 0,.int .u64 0,.int .u64 0,.int .u64 0,.int .u64 0,.int .u64 0,.int .u64 0,.int .u64 0,.int .u64 0,.int .u64 0,.int .u64 0,.int .u64 0] 293)).alloc (.cells #[.bool false,.int .u64 0,.int .u64 0,.int .u64 0,.int .u64 0,.int .u64 0,.int .u64 0,.int .u64 0,.int .u64 0,.int .u64 0,.int .u64 0,.int .u64 0,.int .u64 0,.int .u64 0,.int .u64 0,.int .u64 0,.int .u64 0] 293));have ae:=q_ (show w3.heap[z]?=some (c9_ bx_) from by rw[<-y.o,<-G.o];exact heap_alloc2_old w2 _ _);have b1:=q_ (show w3.heap[z+1]?=some (c9_ bx_) from by rw[<-y.o,<-G.o];exact heap_alloc2_new w2 _ _);have N:=q_ (show Below w2.heap.size w2 w3 from by rw[<-y.o];exact D_ _ _ _);have c:=q_ (And.intro y.o G.o);clear a6 X q
 go_upto_region 2 with (first
  | ((with_reducible refine y_ 5 ?_);refine m_ rfl 293 _ _ rfl w2.heap.size bx_ F 293 rfl rfl (by have h:=ae.o;rw[<-c.o.1,<-c.o.2]at h;exact h) av.o a9.o ad.o ?_;intro w4 I i)
  | ((with_reducible refine y_ 6 ?_);refine m_ rfl 293 _ _ rfl (w2.heap.size+1) bx_ A 293 rfl rfl (by have h:=b1.o;rw[<-c.o.1,<-c.o.2]at h;exact i.heap h (show ¬w2.heap.size+1=w2.heap.size by omega)) b0.o ah.o ao.o ?_;intro w5 T u))
 rw[c.o.2]at I T u ⊢;rw[c.o.1]at i;rw[c.o.2]at i;have aw:=q_ (u.heap I (show ¬z=z+1 by omega));have V:=q_ T;have aj:=q_ (S.o.trans ((N.o.trans ((i.below (B:=w2.heap.size) (λb _ h=>by have h:b=z:=h;have:=G.o;omega) N.o.size).trans (u.below (B:=w2.heap.size) (λb _ h=>by have h:b=z+1:=h;have:=G.o;omega) (Nat.le_trans N.o.size i.size)))).mono S.o.size));clear I T i u;have y0:w5.cell? ⟨z+1,0,none⟩=some (.bool r):=(cell_of_row _ _ _ _ _ _ V.o).trans ac.o;have yf:w5.frozen? ⟨z+1,0,none⟩=false:=frozen_of_row _ _ _ _ _ V.o;go_upto_region 5 with fail;obtain⟨w6,v⟩:=a_ (w5.setCell ⟨z+1,0,none⟩ (.bool (!r)));have au:=q_ (show w6.heap[z]?=some (c9_ F) from by rw[<-v.o,heap_setCell_other _ _ _ _ (show z≠z+1 by omega)];exact aw.o);have az:=q_ (show w6.heap[z+1]?=some (c9_ Y) from by rw[<-v.o,<-ai.o];exact heap_setCell_same _ _ _ _ _ _ V.o);have ab:=q_ (show Below w.heap.size w w6 from by rw[<-v.o];exact aj.o.setCell (by show w.heap.size<=z+1;have:=S.o.size;have:=G.o;omega) _);have ag:=q_ (k_ au.o);have ap:=q_ (k_ az.o);rw[v.o];clear y0 yf
 go_wp2_with (first
  | ((with_reducible refine e_ (some 22) ?_);refine w_ rfl 293 _ rfl z 0 rfl F _ (ag.o) Tryz.underlying293 rfl a9.o ?_)
  | ((with_reducible refine e_ (some 23) ?_);refine w_ rfl 293 _ rfl (z+1) 0 rfl Y _ (ap.o) Tryz.underlying293 rfl b3.o ?_))
 refine (a0.o w6).mono ?_;rintro e a ⟨O,h,rfl,a4,hh,hv⟩;have x:=q_ (show ey_ s t=if pv h 16=0 then 0 else if O=true then -1 else 1 from Hq_ HF.o HG.o (by rw[a5.o,aa.o];exact hv))
 have a3:=q_ (ab.o.trans (a4.mono ab.o.size));obtain⟨d,D⟩:=mu_ O h;obtain⟨E,U⟩:=q8_ h;obtain⟨n,a7⟩:∃n,EqU n (λ_=>0):=q8_ _;have L:=q_ (λW:World=>(show (Instr.build 291 #[]).run Tryz.prog W = .ok (.agg n) W from by rw[<-a7.o];exact uu_ W));have hq:∀W,(binOp .eql 291 (.agg E) (.agg n)).run Tryz.prog W = .ok (.bool (decide (pv h 16=0))) W:=λW=>by rw[<-U.o,<-a7.o];exact Eq_ h W
 obtain⟨p,Hp⟩:=a_ (pv h 16);rw[Hp.o]at hq x;rw[D.o];have af:=q_ (show (Tryz.prog.info? 293).map (·.size)=some d.size from by rw[<-D.o,v_];kernel_rfl);have ak:=q_ (show d.all (·.oneCell')=true from by rw[<-D.o];exact a7_ _ _);have ar:=q_ (show d.size=bx_.size from by rw[<-D.o,v_];rfl);have M:=q_ (show (Tryz.prog.info? 291).map (·.size)=some E.size from by rw[<-U.o,ac_];kernel_rfl);have aq:=q_ (λ(W:World) (hW:W.heap[a.heap.size]?=some (c9_ d))=>(show W.rangeAt a.heap.size 1 E.toList/\W.cell? ⟨a.heap.size,0,none⟩=some (.bool O) from by rw[<-D.o]at hW;rw[<-U.o];exact⟨g2_ (ho_ hW),ku_ hW⟩));have b4:=Kb_;have am:=q_ (show (a.alloc (.cells #[.bool false,.int .u64 0,.int .u64 0,.int .u64 0,.int .u64 0,.int .u64 0,.int .u64 0,.int .u64 0,.int .u64 0,.int .u64 0,.int .u64 0,.int .u64 0,.int .u64 0,.int .u64 0,.int .u64 0,.int .u64 0,.int .u64 0] 293)).heap[a.heap.size]?=some (c9_ bx_) from heap_alloc_new a _);clear a4 hh hv Hp D
 go_upto_region 6 with (first
  | ((with_reducible refine y_ 8 ?_);refine m_ rfl 293 _ _ rfl a.heap.size bx_ d 293 rfl rfl am.o ar.o af.o ak.o ?_;intro w8 Z a2))
 have m:=q_ (aq.o w8 Z);have P:=q_ (a3.o.trans (((Below.refl a.heap.size a).alloc (Nat.le_refl _) _ |>.trans (a2.below (B:=a.heap.size) (λb _ h=>by have h:b=a.heap.size:=h;omega) (by simp))).mono a3.o.size));have n0:w8.cell? ⟨a.heap.size,0,none⟩=some (.bool O):=m.o.2;obtain⟨z8,b2⟩:=a_ a.heap.size;rw[b2.o]at m n0 ⊢;clear Z a2;by_cases C:p=0
 ·have R:=q_ (show (0:Int)=ey_ s t from by rw[x.o,if_pos C]);have l:decide (p=0)=true:=decide_eq_true C;rw[l]at hq;clear C l
  go_wp2_with (first
   | ((with_reducible refine e_ (some 27) ?_);refine w_ rfl 291 _ rfl z8 1 rfl E _ (m.o.1) Tryz.underlying291 rfl M.o ?_)
   | ((with_reducible refine e_ (some 28) ?_);refine N_ rfl 291 _ rfl #[] (by kernel_rfl) (.agg n) (L.o _) ?_))
  go_ret;exact⟨by rw[R.o];rfl,P.o⟩
 ·have l:decide (p=0)=false:=decide_eq_false C;rw[l]at hq;have a8:=q_ C;clear C l
  cases O with
  | true=>
   have R:=q_ (show (-1:Int)=ey_ s t from by rw[x.o,if_neg a8.o,if_pos rfl])
   go_wp2_with (first
    | ((with_reducible refine e_ (some 27) ?_);refine w_ rfl 291 _ rfl z8 1 rfl E _ (m.o.1) Tryz.underlying291 rfl M.o ?_)
    | ((with_reducible refine e_ (some 28) ?_);refine N_ rfl 291 _ rfl #[] (by kernel_rfl) (.agg n) (L.o _) ?_))
   go_ret;exact⟨by rw[R.o];rfl,P.o⟩
  | false=>
   have R:=q_ (show (1:Int)=ey_ s t from by rw[x.o,if_neg a8.o,if_neg Bool.false_ne_true])
   go_wp2_with (first
    | ((with_reducible refine e_ (some 27) ?_);refine w_ rfl 291 _ rfl z8 1 rfl E _ (m.o.1) Tryz.underlying291 rfl M.o ?_)
    | ((with_reducible refine e_ (some 28) ?_);refine N_ rfl 291 _ rfl #[] (by kernel_rfl) (.agg n) (L.o _) ?_))
   go_ret;exact⟨by rw[R.o];rfl,P.o⟩
def d7_ (a b:h_) (w:World) (e:Ending) (w':World):Prop:=e = .returned (.int .i64 (ey_ (H_ a) (H_ b)))/\Below w.heap.size w w'
theorem Hr_ (a b:h_) (sa sb:Value) (w:World) (c:a.kind=2) (hb:b.kind=2) (f:a9_ a) (d:a9_ b) :
    Calls Tryz.prog 129 #[.agg (c_ a sa),.agg (c_ b sb)] w (d7_ a b w):=by
 have g:=q_ (λW:World=>Aj_ a.num b.num W);have h:=q_ (show ey_ (H_ a) (H_ b)=cw_ a.num b.num from by unfold H_;rw[if_pos c,if_pos hb,z9_ f.n0 f.n1 d.n0 d.n1];rfl);unfold d7_;rw[h.o];clear h f d;obtain⟨v,i⟩:=a_ (cw_ a.num b.num);rw[i.o]at g ⊢;clear i
 cases a with
 | mk z r n1 s p n=>
 cases b with
 | mk q u A m x t=>
 unfold c_;simp only[h_.kind,h_.truth,h_.num,h_.text,h_.extra]at g c hb ⊢;subst c;subst hb;have j:=q_ (λl k:Obj=>D_ w l k);go_enter Tryz.func129,Tryz.ntmps129
 go_wp2_with fail;refine (g.o _).mono ?_;rintro e y ⟨rfl,rfl⟩;go_wp2_with fail;go_ret;exact⟨rfl,j.o _ _⟩
theorem Hs_ (a b:h_) (sa sb:Value) (w:World) (R:a.kind=2) (hb:b.kind=3) (x:a9_ a) (v:a9_ b) (s:M_ w) (D:bc_ w) :
    Calls Tryz.prog 129 #[.agg (c_ a sa),.agg (c_ b sb)] w (d7_ a b w):=by
 have t:=q_ (λ(W:World) (q:Below w.heap.size w W)=>fg_ a sa x.n0 x.n1 x.ts W (g_ s q) (p_ D q));have u:=q_ (λ(W:World) (q:Below w.heap.size w W)=>fg_ b sb v.n0 v.n1 v.ts W (g_ s q) (p_ D q));have p:=q_ (λ(W:World) (q:Below w.heap.size w W)=>hp_ (H_ a) (H_ b) (d6_ x.n0 x.n1) (d6_ v.n0 v.n1) W (g_ s q));unfold d7_;unfold y4_ at p;unfold up_ at t u;obtain⟨X1,J⟩:=a_ (H_ a);obtain⟨X2,G⟩:=a_ (H_ b);rw[J.o]at t p ⊢;rw[G.o]at u p ⊢;obtain⟨c,Hc⟩:=a_ (ey_ X1 X2);rw[Hc.o]at p ⊢;clear Hc J G;have C:(c_ a sa)[0]?=some (.int .i64 2):=by rw[<-R];rfl
 have y:(c_ b sb)[0]?=some (.int .i64 3):=by rw[<-hb];rfl
 obtain⟨m,F⟩:=F_ a sa;obtain⟨l,L⟩:=F_ b sb;rw[F.o]at t C ⊢;rw[L.o]at u y ⊢;have Q1:=q_ F.size;have Q2:=q_ L.size;obtain⟨z,O⟩:=a_ w.heap.size;obtain⟨d,i⟩:=a_ ((w.alloc (.cells m 39)).alloc (.cells l 39));have r:=q_ (show Below w.heap.size w d from by rw[<-i.o];exact D_ w _ _);have j:=q_ (show d.heap[z]?=some (.cells m 39 (0,0)) from by rw[<-i.o,<-O.o];exact heap_alloc2_old w _ _);have k:=q_ (show d.heap[z+1]?=some (.cells l 39 (0,0)) from by rw[<-i.o,<-O.o];exact heap_alloc2_new w _ _);have p0:d.cell? ⟨z,0,none⟩=some (.int .i64 2):=(cell_of_row _ _ _ _ _ _ j.o).trans C;have q0:d.cell? ⟨z+1,0,none⟩=some (.int .i64 3):=(cell_of_row _ _ _ _ _ _ k.o).trans y;clear C y R hb x v s D;go_enter Tryz.func129,Tryz.ntmps129
 go_upto_region 1 with fail;rw[i.o,O.o];clear i;go_upto_region 3 with fail;have s1:=q_ (show d.drew.heap[z]?=some (.cells m 39 (0,0))/\d.drew.heap[z+1]?=some (.cells l 39 (0,0)) from ⟨j.o,k.o⟩);have U:=q_ (show Below w.heap.size w d.drew from r.o.drew);refine wp_region_held_drew (S:=λW'=>W'.heap[z]?=some (.cells m 39 (0,0))/\W'.heap[z+1]?=some (.cells l 39 (0,0))) (by kernel_rfl) s1.o λf=>?_;refine W_.o ?_;refine tkW 0 18 (.agg m) f (λw A=>?_) λf=>?_
 ·exact o_ (ab_ A.1 39 _ Tryz.underlying39 rfl (by rw[Q1.o];kernel_rfl))
 simp only[Act.put,aT,aZ,aS];refine tkW 2 20 (.agg l) f (λw A=>?_) λf=>?_
 ·exact o_ (ab_ A.2 39 _ Tryz.underlying39 rfl (by rw[Q2.o];kernel_rfl))
 simp only[Act.put,aT,aZ,aS];refine tkC 1 λK h=>?_;change Oper.wp _ ⟨some 19,_,_,_,_,_⟩ _ _ _ _;go_simp;refine (t.o d.drew U.o).mono ?_;rintro e E ⟨rfl,N⟩;have n:=q_ (show Below d.heap.size d E from P_ N);have Z:=q_ (r.o.trans (n.o.mono r.o.size));have P:=q_ (show E.heap[z]?=some (.cells m 39 (0,0))/\E.heap[z+1]?=some (.cells l 39 (0,0)) from ⟨(n.o.block z (b_ j.o)).trans j.o,(n.o.block (z+1) (b_ k.o)).trans k.o⟩);clear N;dsimp only;refine h.out _ _ P.o λf=>?_;clear h K;(try simp only[Act.put,aT,aZ,aS]);refine tkC 3 λK h=>?_;change Oper.wp _ ⟨some 21,_,_,_,_,_⟩ _ _ _ _;go_simp;refine (u.o E Z.o).mono ?_;rintro e w5 ⟨rfl,M⟩;have g:=q_ (n.o.trans (M.mono n.o.size));have Y:=q_ (r.o.trans (g.o.mono r.o.size));have T:=q_ (show w5.heap[z]?=some (.cells m 39 (0,0))/\w5.heap[z+1]?=some (.cells l 39 (0,0)) from ⟨(g.o.block z (b_ j.o)).trans j.o,(g.o.block (z+1) (b_ k.o)).trans k.o⟩);clear M;dsimp only;refine h.out _ _ T.o λf=>?_;clear h K;(try simp only[Act.put,aT,aZ,aS]);refine tkC 4 λK h=>?_;change Oper.wp _ ⟨some 22,_,_,_,_,_⟩ _ _ _ _;go_simp;refine (p.o w5 Y.o).mono ?_;rintro e w6 ⟨rfl,I⟩;have B:=q_ (g.o.trans (I.mono g.o.size));have X:=q_ (r.o.trans (B.o.mono r.o.size));have V:=q_ (show w6.heap[z]?=some (.cells m 39 (0,0))/\w6.heap[z+1]?=some (.cells l 39 (0,0)) from ⟨(B.o.block z (b_ j.o)).trans j.o,(B.o.block (z+1) (b_ k.o)).trans k.o⟩);clear I;dsimp only;refine h.out _ _ V.o λf=>?_;clear h K;(try simp only[Act.put,aT,aZ,aS]);refine X_ 5 4 (.int .i64 c) f λf=>?_;simp only[Act.put,aT,aZ,aS];refine⟨wpAnyH_done (by kernel_rfl) ?_ _⟩;clear f;go_wp2_with fail;go_ret;exact⟨rfl,X.o⟩
theorem Ht_ (a b:h_) (sa sb:Value) (w:World) (R:a.kind=3) (hb:b.kind=2) (x:a9_ a) (v:a9_ b) (s:M_ w) (D:bc_ w) :
    Calls Tryz.prog 129 #[.agg (c_ a sa),.agg (c_ b sb)] w (d7_ a b w):=by
 have t:=q_ (λ(W:World) (q:Below w.heap.size w W)=>fg_ a sa x.n0 x.n1 x.ts W (g_ s q) (p_ D q));have u:=q_ (λ(W:World) (q:Below w.heap.size w W)=>fg_ b sb v.n0 v.n1 v.ts W (g_ s q) (p_ D q));have p:=q_ (λ(W:World) (q:Below w.heap.size w W)=>hp_ (H_ a) (H_ b) (d6_ x.n0 x.n1) (d6_ v.n0 v.n1) W (g_ s q));unfold d7_;unfold y4_ at p;unfold up_ at t u;obtain⟨X1,J⟩:=a_ (H_ a);obtain⟨X2,G⟩:=a_ (H_ b);rw[J.o]at t p ⊢;rw[G.o]at u p ⊢;obtain⟨c,Hc⟩:=a_ (ey_ X1 X2);rw[Hc.o]at p ⊢;clear Hc J G;have C:(c_ a sa)[0]?=some (.int .i64 3):=by rw[<-R];rfl
 have y:(c_ b sb)[0]?=some (.int .i64 2):=by rw[<-hb];rfl
 obtain⟨m,F⟩:=F_ a sa;obtain⟨l,L⟩:=F_ b sb;rw[F.o]at t C ⊢;rw[L.o]at u y ⊢;have Q1:=q_ F.size;have Q2:=q_ L.size;obtain⟨z,O⟩:=a_ w.heap.size;obtain⟨d,i⟩:=a_ ((w.alloc (.cells m 39)).alloc (.cells l 39));have r:=q_ (show Below w.heap.size w d from by rw[<-i.o];exact D_ w _ _);have j:=q_ (show d.heap[z]?=some (.cells m 39 (0,0)) from by rw[<-i.o,<-O.o];exact heap_alloc2_old w _ _);have k:=q_ (show d.heap[z+1]?=some (.cells l 39 (0,0)) from by rw[<-i.o,<-O.o];exact heap_alloc2_new w _ _);have p0:d.cell? ⟨z,0,none⟩=some (.int .i64 3):=(cell_of_row _ _ _ _ _ _ j.o).trans C;have q0:d.cell? ⟨z+1,0,none⟩=some (.int .i64 2):=(cell_of_row _ _ _ _ _ _ k.o).trans y;clear C y R hb x v s D;go_enter Tryz.func129,Tryz.ntmps129
 go_upto_region 1 with fail;rw[i.o,O.o];clear i;go_upto_region 3 with fail;have s1:=q_ (show d.drew.heap[z]?=some (.cells m 39 (0,0))/\d.drew.heap[z+1]?=some (.cells l 39 (0,0)) from ⟨j.o,k.o⟩);have U:=q_ (show Below w.heap.size w d.drew from r.o.drew);refine wp_region_held_drew (S:=λW'=>W'.heap[z]?=some (.cells m 39 (0,0))/\W'.heap[z+1]?=some (.cells l 39 (0,0))) (by kernel_rfl) s1.o λf=>?_;refine W_.o ?_;refine tkW 0 18 (.agg m) f (λw A=>?_) λf=>?_
 ·exact o_ (ab_ A.1 39 _ Tryz.underlying39 rfl (by rw[Q1.o];kernel_rfl))
 simp only[Act.put,aT,aZ,aS];refine tkW 2 20 (.agg l) f (λw A=>?_) λf=>?_
 ·exact o_ (ab_ A.2 39 _ Tryz.underlying39 rfl (by rw[Q2.o];kernel_rfl))
 simp only[Act.put,aT,aZ,aS];refine tkC 1 λK h=>?_;change Oper.wp _ ⟨some 19,_,_,_,_,_⟩ _ _ _ _;go_simp;refine (t.o d.drew U.o).mono ?_;rintro e E ⟨rfl,N⟩;have n:=q_ (show Below d.heap.size d E from P_ N);have Z:=q_ (r.o.trans (n.o.mono r.o.size));have P:=q_ (show E.heap[z]?=some (.cells m 39 (0,0))/\E.heap[z+1]?=some (.cells l 39 (0,0)) from ⟨(n.o.block z (b_ j.o)).trans j.o,(n.o.block (z+1) (b_ k.o)).trans k.o⟩);clear N;dsimp only;refine h.out _ _ P.o λf=>?_;clear h K;(try simp only[Act.put,aT,aZ,aS]);refine tkC 3 λK h=>?_;change Oper.wp _ ⟨some 21,_,_,_,_,_⟩ _ _ _ _;go_simp;refine (u.o E Z.o).mono ?_;rintro e w5 ⟨rfl,M⟩;have g:=q_ (n.o.trans (M.mono n.o.size));have Y:=q_ (r.o.trans (g.o.mono r.o.size));have T:=q_ (show w5.heap[z]?=some (.cells m 39 (0,0))/\w5.heap[z+1]?=some (.cells l 39 (0,0)) from ⟨(g.o.block z (b_ j.o)).trans j.o,(g.o.block (z+1) (b_ k.o)).trans k.o⟩);clear M;dsimp only;refine h.out _ _ T.o λf=>?_;clear h K;(try simp only[Act.put,aT,aZ,aS]);refine tkC 4 λK h=>?_;change Oper.wp _ ⟨some 22,_,_,_,_,_⟩ _ _ _ _;go_simp;refine (p.o w5 Y.o).mono ?_;rintro e w6 ⟨rfl,I⟩;have B:=q_ (g.o.trans (I.mono g.o.size));have X:=q_ (r.o.trans (B.o.mono r.o.size));have V:=q_ (show w6.heap[z]?=some (.cells m 39 (0,0))/\w6.heap[z+1]?=some (.cells l 39 (0,0)) from ⟨(B.o.block z (b_ j.o)).trans j.o,(B.o.block (z+1) (b_ k.o)).trans k.o⟩);clear I;dsimp only;refine h.out _ _ V.o λf=>?_;clear h K;(try simp only[Act.put,aT,aZ,aS]);refine X_ 5 4 (.int .i64 c) f λf=>?_;simp only[Act.put,aT,aZ,aS];refine⟨wpAnyH_done (by kernel_rfl) ?_ _⟩;clear f;go_wp2_with fail;go_ret;exact⟨rfl,X.o⟩
theorem Hu_ (a b:h_) (sa sb:Value) (w:World) (R:a.kind=3) (hb:b.kind=3) (x:a9_ a) (v:a9_ b) (s:M_ w) (D:bc_ w) :
    Calls Tryz.prog 129 #[.agg (c_ a sa),.agg (c_ b sb)] w (d7_ a b w):=by
 have t:=q_ (λ(W:World) (q:Below w.heap.size w W)=>fg_ a sa x.n0 x.n1 x.ts W (g_ s q) (p_ D q));have u:=q_ (λ(W:World) (q:Below w.heap.size w W)=>fg_ b sb v.n0 v.n1 v.ts W (g_ s q) (p_ D q));have p:=q_ (λ(W:World) (q:Below w.heap.size w W)=>hp_ (H_ a) (H_ b) (d6_ x.n0 x.n1) (d6_ v.n0 v.n1) W (g_ s q));unfold d7_;unfold y4_ at p;unfold up_ at t u;obtain⟨X1,J⟩:=a_ (H_ a);obtain⟨X2,G⟩:=a_ (H_ b);rw[J.o]at t p ⊢;rw[G.o]at u p ⊢;obtain⟨c,Hc⟩:=a_ (ey_ X1 X2);rw[Hc.o]at p ⊢;clear Hc J G;have C:(c_ a sa)[0]?=some (.int .i64 3):=by rw[<-R];rfl
 have y:(c_ b sb)[0]?=some (.int .i64 3):=by rw[<-hb];rfl
 obtain⟨m,F⟩:=F_ a sa;obtain⟨l,L⟩:=F_ b sb;rw[F.o]at t C ⊢;rw[L.o]at u y ⊢;have Q1:=q_ F.size;have Q2:=q_ L.size;obtain⟨z,O⟩:=a_ w.heap.size;obtain⟨d,i⟩:=a_ ((w.alloc (.cells m 39)).alloc (.cells l 39));have r:=q_ (show Below w.heap.size w d from by rw[<-i.o];exact D_ w _ _);have j:=q_ (show d.heap[z]?=some (.cells m 39 (0,0)) from by rw[<-i.o,<-O.o];exact heap_alloc2_old w _ _);have k:=q_ (show d.heap[z+1]?=some (.cells l 39 (0,0)) from by rw[<-i.o,<-O.o];exact heap_alloc2_new w _ _);have p0:d.cell? ⟨z,0,none⟩=some (.int .i64 3):=(cell_of_row _ _ _ _ _ _ j.o).trans C;have q0:d.cell? ⟨z+1,0,none⟩=some (.int .i64 3):=(cell_of_row _ _ _ _ _ _ k.o).trans y;clear C y R hb x v s D;go_enter Tryz.func129,Tryz.ntmps129
 go_upto_region 1 with fail;rw[i.o,O.o];clear i;go_upto_region 3 with fail;have s1:=q_ (show d.drew.heap[z]?=some (.cells m 39 (0,0))/\d.drew.heap[z+1]?=some (.cells l 39 (0,0)) from ⟨j.o,k.o⟩);have U:=q_ (show Below w.heap.size w d.drew from r.o.drew);refine wp_region_held_drew (S:=λW'=>W'.heap[z]?=some (.cells m 39 (0,0))/\W'.heap[z+1]?=some (.cells l 39 (0,0))) (by kernel_rfl) s1.o λf=>?_;refine W_.o ?_;refine tkW 0 18 (.agg m) f (λw A=>?_) λf=>?_
 ·exact o_ (ab_ A.1 39 _ Tryz.underlying39 rfl (by rw[Q1.o];kernel_rfl))
 simp only[Act.put,aT,aZ,aS];refine tkW 2 20 (.agg l) f (λw A=>?_) λf=>?_
 ·exact o_ (ab_ A.2 39 _ Tryz.underlying39 rfl (by rw[Q2.o];kernel_rfl))
 simp only[Act.put,aT,aZ,aS];refine tkC 1 λK h=>?_;change Oper.wp _ ⟨some 19,_,_,_,_,_⟩ _ _ _ _;go_simp;refine (t.o d.drew U.o).mono ?_;rintro e E ⟨rfl,N⟩;have n:=q_ (show Below d.heap.size d E from P_ N);have Z:=q_ (r.o.trans (n.o.mono r.o.size));have P:=q_ (show E.heap[z]?=some (.cells m 39 (0,0))/\E.heap[z+1]?=some (.cells l 39 (0,0)) from ⟨(n.o.block z (b_ j.o)).trans j.o,(n.o.block (z+1) (b_ k.o)).trans k.o⟩);clear N;dsimp only;refine h.out _ _ P.o λf=>?_;clear h K;(try simp only[Act.put,aT,aZ,aS]);refine tkC 3 λK h=>?_;change Oper.wp _ ⟨some 21,_,_,_,_,_⟩ _ _ _ _;go_simp;refine (u.o E Z.o).mono ?_;rintro e w5 ⟨rfl,M⟩;have g:=q_ (n.o.trans (M.mono n.o.size));have Y:=q_ (r.o.trans (g.o.mono r.o.size));have T:=q_ (show w5.heap[z]?=some (.cells m 39 (0,0))/\w5.heap[z+1]?=some (.cells l 39 (0,0)) from ⟨(g.o.block z (b_ j.o)).trans j.o,(g.o.block (z+1) (b_ k.o)).trans k.o⟩);clear M;dsimp only;refine h.out _ _ T.o λf=>?_;clear h K;(try simp only[Act.put,aT,aZ,aS]);refine tkC 4 λK h=>?_;change Oper.wp _ ⟨some 22,_,_,_,_,_⟩ _ _ _ _;go_simp;refine (p.o w5 Y.o).mono ?_;rintro e w6 ⟨rfl,I⟩;have B:=q_ (g.o.trans (I.mono g.o.size));have X:=q_ (r.o.trans (B.o.mono r.o.size));have V:=q_ (show w6.heap[z]?=some (.cells m 39 (0,0))/\w6.heap[z+1]?=some (.cells l 39 (0,0)) from ⟨(B.o.block z (b_ j.o)).trans j.o,(B.o.block (z+1) (b_ k.o)).trans k.o⟩);clear I;dsimp only;refine h.out _ _ V.o λf=>?_;clear h K;(try simp only[Act.put,aT,aZ,aS]);refine X_ 5 4 (.int .i64 c) f λf=>?_;simp only[Act.put,aT,aZ,aS];refine⟨wpAnyH_done (by kernel_rfl) ?_ _⟩;clear f;go_wp2_with fail;go_ret;exact⟨rfl,X.o⟩
theorem kv_ (a b:h_) (sa sb:Value) (w:World) (c:a.kind=2\/a.kind=3) (hb:b.kind=2\/b.kind=3) (g:a9_ a) (f:a9_ b) (d:M_ w) (e:bc_ w) :
    Calls Tryz.prog 129 #[.agg (c_ a sa),.agg (c_ b sb)] w (d7_ a b w):=by
 rcases c with c | c
 ·rcases hb with hb | hb
  ·exact Hr_ a b sa sb w c hb g f
  ·exact Hs_ a b sa sb w c hb g f d e
 ·rcases hb with hb | hb
  ·exact Ht_ a b sa sb w c hb g f d e
  ·exact Hu_ a b sa sb w c hb g f d e
end Go.Proofs.YtefhfadjajcmkaaGreatDoor
