/- Triples: what is loaded from a list; the closures of Load; ContainsFunc. -/
import Derived.Test.YtefhfadjajcmkaaGreatDoorO2
import Derived.ChangeKeysEq
import Derived.Laws.StructEq
set_option linter.unusedVariables false
set_option linter.unusedSimpArgs false
set_option maxRecDepth 100000
set_option maxHeartbeats 64000000
namespace Go.Proofs.YtefhfadjajcmkaaGreatDoor
open _root_.Go.Proofs.Tryz
open Go.Act renaming put→VK
open Bool renaming and_eq_true→YW
open Go.IntWalk renaming i64_in→YU
open Go.Instr renaming typeAssert→YX
open Go.Ending renaming returned→YQ
open Go.RowKit renaming Below→XW
open Go.RowKit.Below renaming refl→XV
open Nat renaming lt_of_lt_of_le→XZ,le_refl→XK,le_trans→ZX,zero_add→VQ,lt_or_ge→VZ
open Go.Obj renaming cells→XX
open List renaming getElem?_eq_getElem→XQ,mem_of_getElem?→YZ,take_of_length_le→YJ,length_append→ZZ,eq_nil_of_length_eq_zero→UK,mem_cons_self→VJ
open _root_.Go.Proofs.Tryz renaming prog→QW,underlying39→YV
open Go renaming World→QV,Value→XJ,heap_alloc_new→XU,bodyPost_ret→ZV,wp_region_held_drew→UZ,cell_of_row→UU,run_string_add_sum→UV,wpAnyH_done→VX
open Go.IntKind renaming i64→QU,u64→UY
open Option renaming some→QJ,none→QK
open Go.Lib renaming cell_of_heap→QX
open Go.Value renaming slice→QQ,string→QZ,int→QY,bool→XY,pointer→YK,tuple→ZJ,iface→UX
open Go.Lib (cell_of_heap)
section
open Go Go.RowKit
theorem N2_ (s:ByteArray) (b:s.data.toList.all bm_=true) (h0:0<s.size) (a:s.size<=9) (w:QV) :
    Calls QW 347 #[QZ s,QY QU 10,QY QU 64] w λe w'=>e = YQ (ZJ #[QY UY (a0_ s.data.toList:Int),.nilIface])/\XW w.heap.size w w':=
 (Any.strconv_ParseUint_10_at64_ok Tryz.laysPu14 s (by omega) (a0_ s.data.toList) (Am_ b h0 a) w).mono λe w' ⟨h1,h2⟩=>⟨h1,by
  rcases h2 with rfl | rfl
  ·exact XV _ _
  ·exact Lib.bytesWorld_below _ _ _⟩
theorem zq_ (f:Nat->Nat) {i:Nat} (hi:i<16) (m:Nat):(X_ f).setIfInBounds i (QY UY (m:Int))=X_ (λj=>if j=i then m else f j):=by
 apply Array.ext_getElem?;intro j;rcases VZ j 16 with a | a
 ·have d:=dz_ f a;have b:=dz_ (λj=>if j=i then m else f j) a
  rw[Array.getElem?_setIfInBounds,d,b,ah_];by_cases e:i=j
  ·subst e;rw[iP_ rfl,iP_ hi,iP_ rfl]
  ·rw[iN_ e,iN_ (λb=>e b.symm)]
 ·rw[Array.getElem?_eq_none (by rw[Array.size_setIfInBounds,ah_];exact a),Array.getElem?_eq_none (by rw[ah_];exact a)]
theorem wz_ {s:ByteArray} (k:Nat):(s.extract k s.size).data.toList=s.data.toList.drop k:=by rw[ByteArray.data_extract,Array.toList_extract,List.extract_eq_take_drop];have a:s.size=s.data.toList.length:=(al_ s).symm;rw[a];apply YJ;rw[List.length_drop];exact XK _
theorem Nj_ {s:ByteArray} (k:Nat):(s.extract 0 k).data.toList=s.data.toList.take k:=by rw[ByteArray.data_extract,Array.toList_extract,List.extract_eq_take_drop,Nat.sub_zero,List.drop_zero]
def Kg_ (l:List UInt8) (w:QV) (e:Ending) (w':QV):Prop:=∃f:Nat->Nat,e = YQ (.agg (X_ f))/\XW w.heap.size w w'/\(∀i,i<16->f i<bW)/\pv f 16=a0_ l
structure Mn_ (w:QV) (z:Nat) (l:List UInt8) (i:Nat) (r:ByteArray) (f:Nat->Nat) (wx:QV):Prop where
 hb:XW w.heap.size w wx
 hz:w.heap.size=z
 h0:wx.heap[z]?=QJ (XX (X_ (λ_=>0)) 291 (0,0))
 h1:wx.heap[z+1]?=QJ (XX (X_ f) 291 (0,0))
 lo:∀j,j<i->f j<bW
 hi:∀j,i<=j->f j=0
 dig:r.data.toList.all bm_=true
 sz:r.size+9*i<=144\/r.size=0
 val:pv f i+a0_ r.data.toList*bW ^ i=a0_ l
theorem Ja_ {f:Nat->Nat} {i:Nat} (h:∀j,i<=j->f j=0):∀n,pv f (i+n)=pv f i:=by
 intro n;induction n with
 | zero=>rfl
 | succ n a=>
  show pv f (i+n)+f (i+n)*bW ^ (i+n)=pv f i;rw[a,h (i+n) (by omega)];simp
theorem y8_ (s:ByteArray) (W:s.data.toList.all bm_=true) (X:s.size<=144) (w:QV) :
    Calls QW 328 #[QZ s] w (Kg_ s.data.toList w):=by
 obtain⟨z,E⟩:=a_ w.heap.size;obtain⟨w1,l⟩:=a_ ((w.alloc (XX #[QY UY 0,QY UY 0,QY UY 0,QY UY 0,QY UY 0,QY UY 0,QY UY 0,QY UY 0,QY UY 0,QY UY 0,QY UY 0,QY UY 0,QY UY 0,QY UY 0,QY UY 0,QY UY 0] 291)).alloc (XX #[QY UY 0,QY UY 0,QY UY 0,QY UY 0,QY UY 0,QY UY 0,QY UY 0,QY UY 0,QY UY 0,QY UY 0,QY UY 0,QY UY 0,QY UY 0,QY UY 0,QY UY 0,QY UY 0] 291));have d:(#[QY UY 0,QY UY 0,QY UY 0,QY UY 0,QY UY 0,QY UY 0,QY UY 0,QY UY 0,QY UY 0,QY UY 0,QY UY 0,QY UY 0,QY UY 0,QY UY 0,QY UY 0,QY UY 0]:Array XJ)=X_ (λ_=>0):=by kernel_rfl
 have HM:=q_ (show Mn_ w z s.data.toList 0 s (λ_=>0) w1 from {
  hb:=by rw[<-l.o];exact F_ w _ _
  hz:=E.o
  h0:=by rw[<-l.o,<-E.o,d,Below.heap_alloc _ _ _ (by simp)];exact XU w _
  h1:=by rw[<-l.o,<-E.o,d];have:=XU (w.alloc (XX (X_ (λ_=>0)) 291)) (XX (X_ (λ_=>0)) 291);simpa using this
  lo:=λj B=>absurd B (Nat.not_lt_zero _)
  hi:=λ_ _=>rfl
  dig:=W
  sz:=.inl (by omega)
  val:=by simp[pv] })
 clear W d;go_enter func328,ntmps328
 go_upto_region 2 with fail;rw[l.o,E.o];go_wp2_with fail;go_loopw [0,4] (λs0 M wx=>∃(i:Nat) (r:ByteArray) (f:Nat->Nat),i<=16/\r.size<=144/\s0 = QZ r/\M = QY QU (i:Nat)/\Q_ (Mn_ w z s.data.toList i r f wx)) (λ_ M _=>16-(intOf M).toNat)
 case atStart=>exact⟨0,s,_,by omega,X,rfl,rfl,HM⟩
 case round=>
  obtain⟨i,r,f,hi,a6,rfl,rfl,a⟩:=hrel;by_cases h0:0<r.size
  ·have y:i<16:=by have:=a.o.sz;omega
   have e1:(0:Int)<(r.size:Int):=by omega
   have e2:(0:Int)<=i:=by omega
   have e3:(i:Int)<16:=by omega
   have w0:IntKind.i64.wrap ((r.size:Int)-9)=(r.size:Int)-9:=YU _ (by omega);have a7:IntKind.i64.wrap ((i:Int)+1)=(i:Int)+1:=YU _ (by omega);obtain⟨k,g⟩:=a_ (r.size-9);have a3:k<=r.size:=by rw[<-g.o];omega
   have a4:max ((r.size:Int)-9) 0=(k:Int):=by rw[<-g.o];omega
   obtain⟨c,D⟩:=a_ (r.extract k r.size);have u:c.size=r.size-k:=by rw[<-D.o];simp
   have J:=q_ (N2_ c (by rw[<-D.o,wz_,List.all_eq_true];exact λx C=>List.all_eq_true.1 a.o.dig x (List.mem_of_mem_drop C)) (by rw[u,<-g.o];omega) (by rw[u,<-g.o];omega) wr);obtain⟨m,R⟩:=a_ (a0_ c.data.toList);rw[R.o]at J;have F:=q_ (show m=a0_ (r.data.toList.drop (r.data.toList.length-9)) from by rw[<-R.o,<-D.o,wz_,al_,g.o]);obtain⟨L,t⟩:=a_ (r.extract 0 k);have I:=q_ (show L.data.toList=r.data.toList.take (r.data.toList.length-9) from by rw[<-t.o,Nj_,al_,g.o]);have G:=q_ (show L.size=k from by rw[<-t.o];simp;omega);have P:=q_ (show k=r.size-9 from g.o.symm);have a1:=D.o;have a5:=t.o;have a2:=d2_ (z+1) i;clear u;go_wp2_with fail;refine J.o.mono ?_;rintro e w2 ⟨rfl,n⟩;have N:=q_ n;have q:=q_ ((n.block (z+1) (b_ a.o.h1)).trans a.o.h1);have O:=q_ ((n.block z (b_ a.o.h0)).trans a.o.h0);have c1:w2.cell? ⟨z+1,i,QK⟩=QJ (QY UY (f i:Int)):=(QX q.o i).trans (dz_ f y);have f1:w2.frozen? ⟨z+1,i,QK⟩=false:=frozen_of_row _ _ _ _ _ q.o;clear n;go_wp2_with fail;go_roundw
   case measure=>simp[intOf];omega
   case rel=>
    have a0:0<bW:=by decide
    refine⟨i+1,L,λj=>if j=i then m else f j,by omega,by rw[G.o];omega,rfl,by go_num,q_ ?_⟩
    have U:m<bW:=by rw[F.o];refine XZ (zz_ _ ?_) (show 10 ^ _<=10 ^ 9 from Nat.pow_le_pow_right (by decide) (by rw[List.length_drop];omega));rw[List.all_eq_true];exact λx C=>List.all_eq_true.1 a.o.dig x (List.mem_of_mem_drop C)
    exact {
     hb:=a.o.hb.trans (((N.o.mono a.o.hb.size)).setCell (by show w.heap.size<=z+1;have:=a.o.hz;omega) _)
     hz:=a.o.hz
     h0:=by rw[heap_setCell_other _ _ _ _ (by show z≠z+1;omega)];exact O.o
     h1:=by rw[heap_setCell_same _ _ _ _ _ _ q.o,zq_ f y]
     lo:=λj B=>by
      by_cases e:j=i
      ·simp only[iP_ e];exact U
      ·simp only[iN_ e];exact a.o.lo j (by omega)
     hi:=λj B=>by
      simp only[iN_ (show j≠i by omega)];exact a.o.hi j (by omega)
     dig:=by rw[I.o,List.all_eq_true];exact λx C=>List.all_eq_true.1 a.o.dig x (List.mem_of_mem_take C)
     sz:=by rw[G.o];have:=P.o;have:=a.o.sz;omega
     val:=by
      rw[I.o]
      exact I8_ (by rw[<-a.o.val];congr 1;exact mc_ (λj B=>iN_ (by omega))) (by
       show (if i=i then m else f i)=_
       rw[iP_ rfl];exact F.o) }
  ·have V:r.size=0:=by omega
   have e1:¬(0:Int)<(r.size:Int):=by omega
   have A:r.data.toList=[]:=UK ((al_ r).trans V);have HV:=q_ (show pv f 16=a0_ s.data.toList from by have h1:=a.o.val;rw[A]at h1;have h2:=Ja_ a.o.hi (16-i);rw[show i+(16-i)=16 by omega]at h2;rw[h2,<-h1];simp[a0_])
   have Z:=q_ (show ∀j,j<16->f j<bW from λj B=>by
    rcases VZ j i with h | h
    ·exact a.o.lo j h
    ·rw[a.o.hi j h];decide)
   clear h0 A
   go_wp2_with (first
    | (refine wpList_load_row rfl 291 _ rfl (z+1) rfl 291 (X_ f) (0,0) (.array 16 225) a.o.h1 (by kernel_rfl) rfl (by rw[ah_];kernel_rfl) ?_)
    | (refine o_ rfl 291 _ _ rfl z (X_ (λ_=>0)) (X_ f) 291 rfl rfl a.o.h0 (by rw[ah_,ah_]) (by rw[ah_];kernel_rfl) (p2_ f) ?_;intro wf S Y))
   refine ZV (v:=.agg (X_ f)) (results_cell_row (p:=2) (ty:=291) (by kernel_rfl) _ _ z 291 (X_ f) (0,0) (.array 16 225) rfl S (by kernel_rfl) rfl (by rw[ah_];kernel_rfl)) rfl ⟨f,rfl,?_,Z.o,HV.o⟩;exact a.o.hb.trans (Y.below (λb _ h=>by have:=a.o.hz;omega) a.o.hb.size)
theorem a9_ (n:Bool) (f:Nat->Nat):(Z_ n f).all (·.oneCell')=true:=by
 have h:=Array.all_eq_true_iff_forall_mem.1 (p2_ f);rw[Array.all_eq_true_iff_forall_mem];intro v a;unfold Z_ at a;rw[Array.mem_append]at a;rcases a with a | a
 ·simp at a;subst a;rfl
 ·exact h v a
theorem Cx_ (n:Bool) (f:Nat->Nat) (w:QV):(Instr.build 293 #[(0,XY n),(1,.agg (X_ f))]).run QW w = .ok (.agg (Z_ n f)) w:=
 run_build w _ _ _ (by kernel_rfl)
def M3_ (s:ByteArray) (w:QV) (e:Ending) (w':QV):Prop:=∃f:Nat->Nat,e = YQ (ZJ #[.agg (Z_ (bj_ s) f),XY true])/\XW w.heap.size w w'/\(∀i,i<16->f i<bW)/\e6_ s=sgV (bj_ s) (pv f 16)
theorem z0_ {a b:List UInt8} (d:a.all bm_=true) (hb:b.all bm_=true) (k:Nat):((a++b)++List.replicate k 48).all bm_=true:=by rw[List.all_append,List.all_append,d,hb,Bool.true_and,Bool.true_and,List.all_eq_true];intro x e;rw[List.eq_of_mem_replicate e];decide
theorem xr_ (s:ByteArray) (L:bl_ s=true) (w:QV) (hg:ad_ w) :
    Calls QW 301 #[QZ s] w (M3_ s w):=by
 obtain⟨g,a,b,d⟩:=je_ L;obtain⟨G,p⟩:=Jk_ d
 have av:s.size<=62:=by
  rcases VZ 62 s.size with h | h
  ·have:=is_ h;rw[L]at this;cases this
  ·exact h
 have a2:0<s.size:=by have h1:s.size=s.data.toList.length:=(al_ s).symm;rw[h1,d.eq,ZZ,ZZ,List.length_cons];omega
 have i:s[0].toNat=45↔g=true:=by
  have h2:s.data.toList.head?=QJ s[0]:=by rw[List.head?_eq_getElem?];exact ep_ s 0 a2
  have J:bj_ s=(QJ s[0]==QJ (45:UInt8)):=by unfold bj_;rw[h2]
  rw[G]at J;constructor
  ·intro h;have:s[0]=45:=UInt8.toNat_inj.1 h;rw[J,this];rfl
  ·intro h;rw[h]at J;have:s[0]=45:=by simpa using J.symm
   rw[this];rfl
 obtain⟨t,Ht⟩:=a_ (bt_ s);rw[Ht.o]at p
 have aq:g=true->s.extract 1 s.size=t:=λh=>by
  have h1:=(vl_ a2 (i.2 h)).2.2;rw[<-Ht.o,h1]
 have ao:g=false->s=t:=λh=>by
  apply ByteArray.ext;apply Array.toList_inj.1;rw[p,d.eq,h];rfl
 have ap:t.size=a.length+(b.length+1):=by show t.data.toList.length=_;rw[p,ZZ,List.length_cons]
 have ab:=q_ d;have S:=q_ G;have B:=q_ (λ(W:QV) (hW:ad_ W)=>uo_ s (by omega) W hW);rw[L]at B;have q:=q_ (λ(W:QV) (hW:ad_ W)=>show Calls QW 295 #[QZ t,QZ ⟨#[46]⟩] W λe w'=>e = YQ (ZJ #[QZ (bK a),QZ (bK b),XY true])/\∃n,w'=W.drewN n from by obtain⟨m,hm⟩:=hW;have:=Br_ t ⟨#[46]⟩ m W (by have:=d.la;have:=d.lb;omega) hm;rw[p,un_ (D4_ d.da)]at this;exact this);have a0:(bK b).size=b.length:=as_ b;have Z:(bK a).size=a.length:=as_ a;have aj:=d.lb;have ai:=d.la;obtain⟨k,r⟩:=a_ (20-b.length);have C:=q_ (λ(W:QV)=>show Calls QW 325 #[QZ ⟨#[48]⟩,QY QU (k:Int)] W λe w'=>e = YQ (QZ (bK (List.replicate k 48)))/\XW W.heap.size W w' from by have:=q7_ ⟨#[48]⟩ k W (by rw[<-r.o];omega) (by rw[<-r.o];show 1*(20-b.length)<=_;omega);have e:Lib.repeatL (⟨#[48]⟩:ByteArray).data.toList k=List.replicate k 48:=oa_ k;rw[e]at this;exact this);have U:=q_ (λ(W:QV)=>y8_ (bK ((a++b)++List.replicate k 48)) (by rw[ja_];exact z0_ d.da d.db k) (by rw[as_,ZZ,ZZ,List.length_replicate,<-r.o];omega) W)
 have j:∀W:QV,(Op.stringOp .add (bK a) (bK b)).run QW W = .ok (.string (bK (a++b))) W:=λW=>by
  rw[<-bg_];exact UV W _ _ (by rw[a0,Z];omega)
 have l:∀W:QV,(Op.stringOp .add (bK (a++b)) (bK (List.replicate k 48))).run QW W = .ok (.string (bK ((a++b)++List.replicate k 48))) W:=λW=>by
  rw[show bK ((a++b)++List.replicate k 48)=bK (a++b)++bK (List.replicate k 48) from by rw[bg_]];exact UV W _ _ (by rw[as_,as_,ZZ,List.length_replicate,<-r.o];omega)
 have au:IntKind.i64.wrap (20-(b.length:Int))=(k:Int):=by rw[YU _ (by omega),<-r.o];omega
 have ar:(20:Int)-(b.length:Int)=(k:Int):=by rw[<-r.o];omega
 have a4:=q_ (show a0_ ((a++b)++List.replicate k 48)=a0_ (a++b)*10 ^ (20-b.length) from by rw[K0_,r.o]);have x:=q_ (ja_ ((a++b)++List.replicate k 48));obtain⟨S3,aa⟩:=a_ (bK ((a++b)++List.replicate k 48));obtain⟨S2,a9⟩:=a_ (bK (List.replicate k 48));obtain⟨S1,a8⟩:=a_ (bK (a++b));obtain⟨Sa,ac⟩:=a_ (bK a);obtain⟨Sb,ad⟩:=a_ (bK b);rw[aa.o]at U l x;rw[a9.o]at C l;rw[a8.o]at j l;rw[ac.o]at q j;rw[ad.o]at q j a0;obtain⟨z,Hz⟩:=a_ w.heap.size;obtain⟨w1,D⟩:=a_ (w.alloc (XX #[XY false,QY UY 0,QY UY 0,QY UY 0,QY UY 0,QY UY 0,QY UY 0,QY UY 0,QY UY 0,QY UY 0,QY UY 0,QY UY 0,QY UY 0,QY UY 0,QY UY 0,QY UY 0,QY UY 0] 293));have y:(#[XY false,QY UY 0,QY UY 0,QY UY 0,QY UY 0,QY UY 0,QY UY 0,QY UY 0,QY UY 0,QY UY 0,QY UY 0,QY UY 0,QY UY 0,QY UY 0,QY UY 0,QY UY 0,QY UY 0]:Array XJ)=Z_ false (λ_=>0):=by kernel_rfl
 have A:=q_ (show XW w.heap.size w w1 from by rw[<-D.o];exact (XV _ w).alloc (XK _) _);have V:=q_ (show w1.heap[z]?=QJ (XX (Z_ false (λ_=>0)) 293 (0,0)) from by rw[<-D.o,<-Hz.o,y];exact XU w _);have R:=q_ (j_ hg A.o);clear d G hg L y Z p ap ai aj;go_enter func301,ntmps301
 go_upto_region 1 with fail;rw[D.o,Hz.o];go_wp2_with fail;refine (B.o w1 R.o).mono ?_;rintro e w2 ⟨rfl,u⟩;have a5:=q_ (A.o.trans (u.mono A.o.size));have af:=q_ ((u.block z (b_ V.o)).trans V.o);have a7:=q_ (j_ R.o u);clear u
 have e1:((s[0].toNat:Int)==45)=g:=by
  cases g with
  | true=>simp;have:=i.2 rfl;omega
  | false=>simp;intro h;have:=i.1 (by omega);cases this
 go_upto_if 15 with fail;go_cut [0] (λs0 wx=>s0 = QZ t/\wx=w2)
 case first=>
  cases g with
  | true=>
   have hx:=q_ (aq rfl);go_wp2_with fail;go_meet;exact⟨rfl,rfl⟩
  | false=>
   have hx:=q_ (ao rfl);go_wp2_with fail;go_meet;exact⟨rfl,rfl⟩
 case rest=>
  obtain⟨h0,rfl⟩:=hcut;subst h0;go_wp2_with fail;refine (q.o wc a7.o).mono ?_;rintro e w3 ⟨rfl,q3,I⟩;have X:=q_ (show w3.heap[z]?=some (XX (Z_ false (λ_=>0)) 293 (0,0)) from by rw[I];exact af.o);have M:=q_ (show XW w.heap.size w w3 from by rw[I];exact dy_ a5.o q3);clear I;go_wp2_with fail;refine (C.o w3).mono ?_;rintro e w4 ⟨rfl,E⟩;have Y:=q_ ((E.block z (b_ X.o)).trans X.o);have N:=q_ (M.o.trans (E.mono M.o.size));clear E;go_wp2_with fail;refine (U.o w4).mono ?_;rintro e w5 ⟨f,rfl,F,a1,a3⟩;have ag:=q_ ((F.block z (b_ Y.o)).trans Y.o);have O:=q_ (N.o.trans (F.mono N.o.size));have a6:=q_ a1;have ae:=q_ a3;clear F a1 a3;dsimp only;rename_i hK;refine hK _ _ ?_;refine W_ rfl 293 _ rfl #[(0,XY g),(1,.agg (X_ f))] (by kernel_rfl) (.agg (Z_ g f)) (Cx_ g f _) ?_;refine o_ rfl 293 _ _ rfl z (Z_ false (λ_=>0)) (Z_ g f) 293 rfl rfl ag.o (by rw[t_,t_]) (by rw[t_];kernel_rfl) (a9_ g f) ?_;intro wf ah am;go_wp2_with fail;have ak:=run_loadVar_row (P:=QW) wf z 293 293 (Z_ g f) (0,0) _ ah underlying293 rfl (by rw[t_];kernel_rfl);have d:=ab.o;refine ZV (v:=ZJ #[.agg (Z_ g f),XY true]) (by simp[results,results301,asAddr,ak]) rfl ⟨f,by rw[S.o],?_,a6.o,?_⟩
  ·exact O.o.trans (am.below (λb _ h=>by have:=Hz.o;omega) O.o.size)
  ·rw[S.o,o3_ d,ae.o,x.o,a4.o];rfl
def b5_:Array XJ:=#[XY false,QY UY 0,QY UY 0,QY UY 0,QY UY 0,QY UY 0,QY UY 0,QY UY 0,QY UY 0,QY UY 0,QY UY 0,QY UY 0,QY UY 0,QY UY 0,QY UY 0,QY UY 0,QY UY 0]
def pg_ (s:ByteArray) (f:Nat->Nat):Prop:=(∀i,i<16->f i<bW)/\e6_ s=sgV (bj_ s) (pv f 16)
def Mv_ (s t:ByteArray) (w:QV) (e:Ending) (w':QV):Prop:=∃f g:Nat->Nat,e = YQ (ZJ #[.agg (Z_ (bj_ s) f),.agg (Z_ (bj_ t) g),XY true])/\XW w.heap.size w w'/\pg_ s f/\pg_ t g
abbrev du_ (c:Array XJ):Obj:=XX c 293 (0,0)
theorem Ge_ (s t:ByteArray) (hs:bl_ s=true) (ht:bl_ t=true) (w:QV) (hg:ad_ w) :
    Calls QW 264 #[QZ s,QZ t] w (Mv_ s t w):=by
 obtain⟨z,Hz⟩:=a_ w.heap.size;obtain⟨w1,y⟩:=a_ ((w.alloc (XX #[XY false,QY UY 0,QY UY 0,QY UY 0,QY UY 0,QY UY 0,QY UY 0,QY UY 0,QY UY 0,QY UY 0,QY UY 0,QY UY 0,QY UY 0,QY UY 0,QY UY 0,QY UY 0,QY UY 0] 293)).alloc (XX #[XY false,QY UY 0,QY UY 0,QY UY 0,QY UY 0,QY UY 0,QY UY 0,QY UY 0,QY UY 0,QY UY 0,QY UY 0,QY UY 0,QY UY 0,QY UY 0,QY UY 0,QY UY 0,QY UY 0] 293));have N:=q_ (show XW w.heap.size w w1 from by rw[<-y.o];exact F_ w _ _);have a7:=q_ (show w1.heap[z]?=QJ (du_ b5_) from by rw[<-y.o,<-Hz.o];exact heap_alloc2_old w _ _);have Z:=q_ (show w1.heap[z+1]?=QJ (du_ b5_) from by rw[<-y.o,<-Hz.o];exact heap_alloc2_new w _ _);have a5:=q_ (j_ hg N.o);have HS:=q_ (λ(W:QV) (hW:ad_ W)=>xr_ s hs W hW);have HT:=q_ (λ(W:QV) (hW:ad_ W)=>xr_ t ht W hW);clear hg;go_enter func264,ntmps264
 go_upto_region 1 with fail;rw[y.o,Hz.o];go_wp2_with fail;refine (HS.o w1 a5.o).mono ?_;rintro e w2 ⟨f,rfl,ac,ag,ae⟩;have aq:=q_ (show pg_ s f from ⟨ag,ae⟩);have n:=q_ ac;obtain⟨n1,aa⟩:=a_ (bj_ s);rw[aa.o];obtain⟨m,C⟩:=a_ w2.heap.size;obtain⟨w3,X⟩:=a_ (w2.alloc (XX #[XY false,QY UY 0,QY UY 0,QY UY 0,QY UY 0,QY UY 0,QY UY 0,QY UY 0,QY UY 0,QY UY 0,QY UY 0,QY UY 0,QY UY 0,QY UY 0,QY UY 0,QY UY 0,QY UY 0] 293));have ay:=q_ (show w3.heap[m]?=QJ (du_ b5_) from by rw[<-X.o,<-C.o];exact XU w2 _);have O:=q_ (show XW w2.heap.size w2 w3 from by rw[<-X.o];exact (XV _ _).alloc (XK _) _);clear ac ag ae;have A:=q_ (And.intro X.o C.o)
 go_wp2_with (first
  | (refine o_ (op:=⟨QK,_,_,_,_,_⟩) rfl 293 _ _ rfl w2.heap.size b5_ (Z_ n1 f) 293 rfl rfl (by have h:=ay.o;rw[<-A.o.1,<-A.o.2]at h;exact h) (by rw[t_];rfl) (by rw[t_];kernel_rfl) (a9_ n1 f) ?_;intro w4 a1 F;rw[A.o.1]at F;rw[A.o.2]at F a1 ⊢))
 have ak:=q_ (F.below (B:=w2.heap.size) (λb _ h=>by have:=C.o;omega) O.o.size);have p:=q_ (n.o.trans ((O.o.trans ak.o).mono n.o.size));have M:=q_ a1;clear a1 F;refine (HT.o w4 (j_ a5.o p.o)).mono ?_;rintro e w5 ⟨g,rfl,ad,ah,af⟩;have ar:=q_ (show pg_ t g from ⟨ah,af⟩);have r:=q_ ad;obtain⟨n2,ab⟩:=a_ (bj_ t);rw[ab.o];obtain⟨L,D⟩:=a_ w5.heap.size;obtain⟨w6,Y⟩:=a_ (w5.alloc (XX #[XY false,QY UY 0,QY UY 0,QY UY 0,QY UY 0,QY UY 0,QY UY 0,QY UY 0,QY UY 0,QY UY 0,QY UY 0,QY UY 0,QY UY 0,QY UY 0,QY UY 0,QY UY 0,QY UY 0] 293));have az:=q_ (show w6.heap[L]?=QJ (du_ b5_) from by rw[<-Y.o,<-D.o];exact XU w5 _);have U:=q_ (show XW w5.heap.size w5 w6 from by rw[<-Y.o];exact (XV _ _).alloc (XK _) _);clear ad ah af;have d:=q_ (And.intro Y.o D.o)
 go_upto_region 3 with (first
  | (refine o_ (op:=⟨QK,_,_,_,_,_⟩) rfl 293 _ _ rfl w5.heap.size b5_ (Z_ n2 g) 293 rfl rfl (by have h:=az.o;rw[<-d.o.1,<-d.o.2]at h;exact h) (by rw[t_];rfl) (by rw[t_];kernel_rfl) (a9_ n2 g) ?_;intro I a2 G;rw[d.o.1]at G;rw[d.o.2]at G a2 ⊢))
 have am:=q_ (G.below (B:=w5.heap.size) (λb _ h=>by have:=D.o;omega) U.o.size);have R:=q_ (r.o.trans ((U.o.trans am.o).mono r.o.size));have q:=q_ (p.o.trans (R.o.mono p.o.size));have a3:=q_ ((R.o.block m (b_ M.o)).trans M.o);have b0:=q_ ((q.o.block z (b_ a7.o)).trans a7.o);have b1:=q_ ((q.o.block (z+1) (b_ Z.o)).trans Z.o);have a6:=q_ a2;have a4:=q_ (N.o.trans (q.o.mono N.o.size));have E:=q_ (show z+1<m/\m<L from ⟨by have h1:=b_ Z.o;have h2:=n.o.size;have:=C.o;omega,by have h1:=b_ M.o;have h2:=r.o.size;have:=D.o;omega⟩);clear a2 G;have u:=t_ n1 f;have x:=t_ n2 g;have o1:=a9_ n1 f;have o2:=a9_ n2 g;obtain⟨i,a8⟩:=a_ (Z_ n1 f);obtain⟨j,a9⟩:=a_ (Z_ n2 g);rw[a8.o]at a3 u o1 ⊢;rw[a9.o]at a6 x o2 ⊢;have u:=q_ u;have x:=q_ x;have o1:=q_ o1;have o2:=q_ o2;have s1:=q_ (show I.drew.heap[m]?=QJ (du_ i)/\I.drew.heap[L]?=QJ (du_ j) from ⟨a3.o,a6.o⟩);refine UZ (S:=λW'=>W'.heap[m]?=QJ (du_ i)/\W'.heap[L]?=QJ (du_ j)) (by kernel_rfl) s1.o λa=>?_;refine H_.o ?_;refine tlW 0 21 (.agg i) a (λw a0=>?_) λa=>?_
 ·exact k_ (cb_ a0.1 293 _ underlying293 rfl (by rw[u.o];kernel_rfl))
 refine tlW 1 22 (.agg j) a (λw a0=>?_) λa=>?_
 ·exact k_ (cb_ a0.2 293 _ underlying293 rfl (by rw[x.o];kernel_rfl))
 refine O_ 2 23 (XY true) a λa=>?_;refine O_ 3 24 (XY true) a λa=>?_;refine O_ 4 25 (XY true) a λa=>?_;refine O_ 5 26 (XY true) a λa=>?_;refine tlC 6 λK hK=>?_;refine ml_ 293 _ _ rfl z b5_ i 293 rfl rfl b0.o u.o (by rw[u.o];kernel_rfl) (o1.o) ?_;intro w8 ai k;have V:=q_ (show w8.heap[m]?=QJ (du_ i)/\w8.heap[L]?=QJ (du_ j) from ⟨k.heap s1.o.1 (by have:=E.o;omega),k.heap s1.o.2 (by have:=E.o;omega)⟩);have au:=q_ (show w8.heap[(z+1)]?=QJ (du_ b5_) from k.heap (show I.drew.heap[(z+1)]?=_ from b1.o) (by omega));refine hK.out _ _ V.o λa=>?_;clear hK K;(try simp only[VK]);refine tlC 7 λK hK=>?_;refine ml_ 293 _ _ rfl (z+1) b5_ j 293 rfl rfl au.o x.o (by rw[x.o];kernel_rfl) (o2.o) ?_;intro J aj l;have av:=q_ (show J.heap[m]?=QJ (du_ i)/\J.heap[L]?=QJ (du_ j) from ⟨l.heap V.o.1 (by have:=E.o;omega),l.heap V.o.2 (by have:=E.o;omega)⟩);have ao:=q_ (show J.heap[z]?=QJ (du_ i) from l.heap ai (by omega));have aw:=q_ (show Turn (λb=>b=z\/b=z+1) I J from (show Turn _ I I.drew from (Turn.refl _ _).drew).trans ((k.mono (λb _ h=>by have h:b=z:=h;omega)).andThen (l.mono (S':=λb=>b=z\/b=z+1) (λb _ h=>by have h:b=(z+1):=h;omega)) (λb _ h=>h)));have ap:=q_ aj;refine hK.out _ _ av.o λa=>?_;clear hK K ai k aj l;(try simp only[VK]);refine O_ 8 6 (XY true) a λa=>?_;refine⟨VX (by kernel_rfl) ?_ _⟩;clear a;go_wp2_with fail;have b2:=run_loadVar_row (P:=QW) J z 293 293 i (0,0) _ ao.o underlying293 rfl (by rw[u.o];kernel_rfl);have b3:=run_loadVar_row (P:=QW) J (z+1) 293 293 j (0,0) _ ap.o underlying293 rfl (by rw[x.o];kernel_rfl);refine ZV (v:=ZJ #[.agg i,.agg j,XY true]) (by simp[results,results264,asAddr,b2,b3]) rfl ⟨f,g,by rw[aa.o,ab.o,a8.o,a9.o],?_,aq.o,ar.o⟩;exact a4.o.trans (aw.o.below (λb _ h=>by have:=Hz.o;omega) a4.o.size)
theorem sk_ (n:Bool) (f:Nat->Nat) {i:Nat} (h:i<16):(Z_ n f)[i+1]?=QJ (QY UY (f i:Int)):=by unfold Z_;rw[Array.getElem?_append_right (by simp)];exact dz_ f h
theorem gc_ (n:Bool) (f:Nat->Nat):(Z_ n f)[0]?=QJ (XY n):=by unfold Z_;rw[Array.getElem?_append_left (by simp)];rfl
theorem hp_ {w:QV} {b:Nat} {n:Bool} {f:Nat->Nat} (h:w.heap[b]?=QJ (du_ (Z_ n f))):WAt w b 1 f:=λi hi=>by
 rw[Nat.add_comm 1 i];exact (UU _ _ _ _ _ _ h).trans (sk_ n f hi)
theorem l1_ {w:QV} {b:Nat} {n:Bool} {f:Nat->Nat} (h:w.heap[b]?=QJ (du_ (Z_ n f))):w.cell? ⟨b,0,QK⟩=QJ (XY n):=
 (UU _ _ _ _ _ _ h).trans (gc_ n f)
theorem hd_ {w:QV} {b o:Nat} {f:Nat->Nat} (h:WAt w b o f):w.rangeAt b o (X_ f).toList:=λj v a=>by
 rw[Array.getElem?_toList]at a;have d:j<16:=by obtain⟨d,_⟩:=Array.getElem?_eq_some_iff.1 a;rwa [ah_]at d
 rw[dz_ f d]at a;injection a with a;rw[h j d,a]
theorem s2_ {w:QV} {b:Nat} {n:Bool} {f:Nat->Nat} (h0:w.cell? ⟨b,0,QK⟩=QJ (XY n)) (h:WAt w b 1 f):w.rangeAt b 0 (Z_ n f).toList:=λj v a=>by
 rw[VQ];rw[Array.getElem?_toList]at a
 cases j with
 | zero=>rw[gc_]at a;rw[h0,a]
 | succ j=>
  have d:j<16:=by obtain⟨d,_⟩:=Array.getElem?_eq_some_iff.1 a;rw[t_]at d;omega
  rw[sk_ n f d]at a;rw[Nat.add_comm j 1,h j d,a]
theorem Ir_ {x y c B:Nat} (h:x+c*B=y) (a:y<B):x=y:=by
 rcases Nat.eq_zero_or_pos c with h0 | h0
 ·rw[h0,Nat.zero_mul]at h;exact h
 ·have h2:1*B<=c*B:=Nat.mul_le_mul_right _ h0;omega
def Of_ (w:QV) (V:Int) (z:Nat) (a:QV):Prop:=∃(b d:Bool) (fa fb:Nat->Nat),a.heap[z]?=QJ (du_ (Z_ b fa))/\a.heap[z+1]?=QJ (du_ (Z_ d fb))/\a.heap[z+1+1]?=QJ (du_ b5_)/\XW w.heap.size w a /\
 pv fb 16<=pv fa 16/\(∀i,i<16->fa i<bW)/\(∀i,i<16->fb i<bW)/\sgV b (pv fa 16)+sgV d (pv fb 16)=V/\b≠d
theorem L2_ (n:Bool) (x y:Nat):sgV n (x+y)=sgV n x+sgV n y:=by cases n<;>simp[sgV]<;>omega
theorem L4_ {a b:Bool} {x y:Nat} (h:a≠b) (d:y<=x):sgV a (x-y)=sgV a x+sgV b y:=by cases a<;>cases b<;>first | exact absurd rfl h | (simp[sgV];omega)
def M7_ (V:Int) (w:QV) (e:Ending) (w':QV):Prop:=∃(ng:Bool) (h:Nat->Nat),e = YQ (.agg (Z_ ng h))/\XW w.heap.size w w'/\(∀i,i<16->h i<bW)/\sgV ng (pv h 16)=V
theorem I1_ (l x:Bool) (f g:Nat->Nat) (hf:∀i,i<16->f i<bW) (hg:∀i,i<16->g i<bW) (ac:pv f 16+pv g 16<bW ^ 16) (w:QV) :
    Calls QW 265 #[.agg (Z_ l f),.agg (Z_ x g)] w (M7_ (sgV l (pv f 16)+sgV x (pv g 16)) w):=by
 have HF:=q_ hf;have HG:=q_ hg;have b0:=q_ ac;obtain⟨z,u⟩:=a_ w.heap.size;obtain⟨J,n⟩:=n6_ l f;obtain⟨L,q⟩:=n6_ x g;obtain⟨R,y⟩:=a_ (((w.alloc (XX J 293)).alloc (XX L 293)).alloc (XX #[XY false,QY UY 0,QY UY 0,QY UY 0,QY UY 0,QY UY 0,QY UY 0,QY UY 0,QY UY 0,QY UY 0,QY UY 0,QY UY 0,QY UY 0,QY UY 0,QY UY 0,QY UY 0,QY UY 0] 293));have D:=q_ (show XW w.heap.size w R from by rw[<-y.o];exact (F_ w _ _).alloc (by simp;omega) _);have k:=q_ (show R.heap[z]?=QJ (du_ (Z_ l f)) from by rw[<-y.o,<-u.o,n.o,Below.heap_alloc _ _ _ (by simp;omega)];exact heap_alloc2_old w _ _);have A:=q_ (show R.heap[z+1]?=QJ (du_ (Z_ x g)) from by rw[<-y.o,<-u.o,q.o,Below.heap_alloc _ _ _ (by simp)];exact heap_alloc2_new w _ _);have a4:=q_ (show R.heap[z+2]?=QJ (du_ b5_) from by rw[<-y.o,<-u.o];have:=XU ((w.alloc (XX J 293)).alloc (XX L 293)) (XX b5_ 293);simp only[World.size_alloc]at this;exact this);have x0:R.cell? ⟨z,0,QK⟩=QJ (XY l):=l1_ k.o;have y0:R.cell? ⟨z+1,0,QK⟩=QJ (XY x):=l1_ A.o;clear hf hg ac;obtain⟨V,U⟩:=a_ (sgV l (pv f 16)+sgV x (pv g 16));rw[n.o,q.o,U.o];go_enter func265,ntmps265
 go_upto_region 1 with fail;rw[y.o,u.o];clear y;by_cases W:l=x
 ·subst W;have t1:(l==l)=true:=beq_self_eq_true _;have a9:=q_ (Jy_ z 1 f g R HF.o HG.o (hp_ k.o) (λj=>frozen_of_row _ _ _ _ _ k.o) (b_ k.o));have G:=q_ (hd_ (hp_ A.o));obtain⟨u2,I⟩:=s1_ g;have a6:=q_ (show (Tryz.prog.info? 291).map (·.size)=QJ u2.size from by rw[<-I.o,ah_];kernel_rfl);rw[I.o]at a9 G
  go_wp2_with (first
   | ((with_reducible refine d_ (some 12) ?_);refine G_ rfl 291 _ rfl (z+1) 1 rfl u2 _ (G.o) underlying291 rfl a6.o ?_))
  refine a9.o.mono ?_;rintro e w3 ⟨rfl,h,hh,hb,⟨c,hc⟩,a,P⟩;have a0:=q_ hh;have a1:=q_ hb;have HV:=q_ (Ir_ hc b0.o);have a3:=q_ ((P 0 (.inl (by decide))).trans (l1_ k.o));have a5:=q_ (show w3.heap[z+1+1]?=QJ (du_ b5_) from a.heap a4.o (show ¬z+1+1=z by omega));have E:=q_ (a.below (B:=w.heap.size) (λb _ h=>by have h:b=z:=h;have:=u.o;omega) D.o.size);clear hh hb hc a P x0 y0;obtain⟨d,s⟩:=n6_ l h;have F:=q_ (s2_ a3.o a0.o);have Y:=q_ (show d.size=b5_.size from by rw[<-s.o,t_];rfl);have m:=q_ (show (Tryz.prog.info? 293).map (·.size)=QJ d.size from by rw[<-s.o,t_];kernel_rfl);have Z:=q_ (show d.all (·.oneCell')=true from by rw[<-s.o];exact a9_ _ _);rw[s.o]at F
  go_wp2_with (first
   | ((with_reducible refine d_ (some 14) ?_);refine G_ rfl 293 _ rfl z 0 rfl d _ (F.o) underlying293 rfl m.o ?_)
   | ((with_reducible refine w_ 4 ?_);refine o_ rfl 293 _ _ rfl (z+1+1) b5_ d 293 rfl rfl a5.o Y.o m.o Z.o ?_;intro w4 O t))
  refine ZV (v:=.agg d) (results_cell_row (p:=4) (ty:=293) (by kernel_rfl) _ _ (z+1+1) 293 d (0,0) _ rfl O underlying293 rfl m.o) rfl ⟨l,h,by rw[s.o],?_,a1.o,?_⟩
  ·exact D.o.trans (E.o.trans (t.below (λb _ h=>by have h:b=z+1+1:=h;have:=u.o;omega) (ZX D.o.size E.o.size)))
  ·rw[HV.o,<-U.o];exact L2_ _ _ _
 ·have t1:(l==x)=false:=bN_.2 W;have aj:=q_ W;have N:=q_ (Jz_ f g R HF.o HG.o);have G:=q_ (hd_ (hp_ k.o));have am:=q_ (hd_ (hp_ A.o));have bb:=q_ (m_ k.o);have bc:=q_ (m_ A.o);obtain⟨u1,ar⟩:=s1_ f;obtain⟨u2,I⟩:=s1_ g;have b8:=q_ (show (Tryz.prog.info? 291).map (·.size)=QJ u1.size from by rw[<-ar.o,ah_];kernel_rfl);have a6:=q_ (show (Tryz.prog.info? 291).map (·.size)=QJ u2.size from by rw[<-I.o,ah_];kernel_rfl);have ae:=q_ (show (Tryz.prog.info? 293).map (·.size)=QJ J.size from by rw[<-n.o,t_];kernel_rfl);have af:=q_ (show (Tryz.prog.info? 293).map (·.size)=QJ L.size from by rw[<-q.o,t_];kernel_rfl);have b5:=q_ (show J.all (·.oneCell')=true from by rw[<-n.o];exact a9_ _ _);have b6:=q_ (show L.all (·.oneCell')=true from by rw[<-q.o];exact a9_ _ _);have ag:=q_ (show L.size=J.size from by rw[<-n.o,<-q.o,t_,t_]);rw[ar.o]at N G;rw[I.o]at N am;obtain⟨r,Hr⟩:=a_ (jx_ (pv f 16) (pv g 16));rw[Hr.o]at N;clear W
  go_wp2_with (first
   | ((with_reducible refine d_ (some 16) ?_);refine G_ rfl 291 _ rfl z 1 rfl u1 _ (G.o) underlying291 rfl b8.o ?_)
   | ((with_reducible refine d_ (some 18) ?_);refine G_ rfl 291 _ rfl (z+1) 1 rfl u2 _ (am.o) underlying291 rfl a6.o ?_))
  refine N.o.mono ?_;rintro e w2 ⟨rfl,M⟩;have a7:=q_ ((M.block z (b_ k.o)).trans k.o);have a8:=q_ ((M.block (z+1) (b_ A.o)).trans A.o);have ak:=q_ (show w2.heap[z+1+1]?=QJ (du_ b5_) from (M.block (z+1+1) (b_ a4.o)).trans a4.o);have S:=q_ (D.o.trans (M.mono D.o.size));clear M x0 y0;go_upto_if 20 with fail;go_cut [] (λwx=>Of_ w V z wx)
  case first=>
   by_cases C:pv f 16<pv g 16
   ·have g0:r<0:=by rw[<-Hr.o];unfold jx_;rw[iP_ C];decide
    have a2:=q_ C;have ah:=q_ (m_ a7.o);have ai:=q_ (m_ a8.o);have ap:=q_ a7.o;have aq:=q_ a8.o;rw[n.o]at ap ah;rw[q.o]at aq ai;clear C
    go_wp2_with (first
     | ((with_reducible refine d_ (some 21) ?_);refine G_ rfl 293 _ rfl (z+1) 0 rfl L _ (ai.o) underlying293 rfl af.o ?_)
     | ((with_reducible refine d_ (some 22) ?_);refine G_ rfl 293 _ rfl z 0 rfl J _ (ah.o) underlying293 rfl ae.o ?_)
     | ((with_reducible refine w_ 2 ?_);refine o_ rfl 293 _ _ rfl z J L 293 rfl rfl ap.o ag.o af.o b6.o ?_;intro w3 ba a)
     | ((with_reducible refine w_ 3 ?_);refine o_ rfl 293 _ _ rfl (z+1) L J 293 rfl rfl (a.heap aq.o (show ¬z+1=z by omega)) ag.o.symm ae.o b5.o ?_;intro w4 O t))
    go_meet;refine⟨x,l,g,f,?_,?_,?_,?_,Nat.le_of_lt a2.o,HG.o,HF.o,(Int.add_comm _ _).trans U.o,λh=>aj.o h.symm⟩
    ·rw[q.o];exact t.heap ba (show ¬z=z+1 by omega)
    ·rw[n.o];exact O
    ·exact t.heap (a.heap ak.o (show ¬z+1+1=z by omega)) (show ¬z+1+1=z+1 by omega)
    ·exact S.o.trans ((a.below (B:=w.heap.size) (λb _ h=>by have h:b=z:=h;have:=u.o;omega) S.o.size).trans (t.below (B:=w.heap.size) (λb _ h=>by have h:b=z+1:=h;have:=u.o;omega) (ZX S.o.size a.size)))
   ·have g0:¬r<0:=by rw[<-Hr.o];unfold jx_;rw[iN_ C];split<;>decide
    have a2:=q_ C;clear C;go_wp2_with fail;go_meet;exact⟨l,x,f,g,a7.o,a8.o,ak.o,S.o,Nat.le_of_not_lt a2.o,HF.o,HG.o,U.o,aj.o⟩
  case rest=>
   obtain⟨na,nb,fa,fb,hx,hy,hr,av,aa,aw,ay,ad,az⟩:=hcut;have X:=q_ av;have b2:=q_ aa;have b1:=q_ ad;have b3:=q_ az;have ab:=q_ (J6_ z 1 fa fb wc aw ay (hp_ hx) (λj=>frozen_of_row _ _ _ _ _ hx) (b_ hx) aa);have ao:=q_ (hd_ (hp_ hy));have b4:=q_ (l1_ hx);have b7:=q_ hr;obtain⟨ub,au⟩:=s1_ fb;have b9:=q_ (show (Tryz.prog.info? 291).map (·.size)=QJ ub.size from by rw[<-au.o,ah_];kernel_rfl);rw[au.o]at ab ao;clear hx hy hr av aa aw ay ad az N
   go_wp2_with (first
    | ((with_reducible refine d_ (some 25) ?_);refine G_ rfl 291 _ rfl (z+1) 1 rfl ub _ (ao.o) underlying291 rfl b9.o ?_))
   refine ab.o.mono ?_;rintro e w3 ⟨rfl,h,hh,hb,hp,a,P⟩;have a0:=q_ hh;have a1:=q_ hb;have HV:=q_ hp;have a3:=q_ ((P 0 (.inl (by decide))).trans b4.o);have a5:=q_ (show w3.heap[z+1+1]?=QJ (du_ b5_) from a.heap b7.o (show ¬z+1+1=z by omega));have E:=q_ (a.below (B:=w.heap.size) (λb _ h=>by have h:b=z:=h;have:=u.o;omega) X.o.size);clear hh hb hp a P;obtain⟨d,s⟩:=n6_ na h;have F:=q_ (s2_ a3.o a0.o);have Y:=q_ (show d.size=b5_.size from by rw[<-s.o,t_];rfl);have m:=q_ (show (Tryz.prog.info? 293).map (·.size)=QJ d.size from by rw[<-s.o,t_];kernel_rfl);have Z:=q_ (show d.all (·.oneCell')=true from by rw[<-s.o];exact a9_ _ _);rw[s.o]at F
   go_wp2_with (first
    | ((with_reducible refine d_ (some 27) ?_);refine G_ rfl 293 _ rfl z 0 rfl d _ (F.o) underlying293 rfl m.o ?_)
    | ((with_reducible refine w_ 4 ?_);refine o_ rfl 293 _ _ rfl (z+1+1) b5_ d 293 rfl rfl a5.o Y.o m.o Z.o ?_;intro w4 O t))
   refine ZV (v:=.agg d) (results_cell_row (p:=4) (ty:=293) (by kernel_rfl) _ _ (z+1+1) 293 d (0,0) _ rfl O underlying293 rfl m.o) rfl ⟨na,h,by rw[s.o],?_,a1.o,?_⟩
   ·exact X.o.trans (E.o.trans (t.below (λb _ h=>by have h:b=z+1+1:=h;have:=u.o;omega) (ZX X.o.size E.o.size)))
   ·rw[<-b1.o,HV.o];exact L4_ b3.o b2.o
def za_:Array XJ:=X_ (λ_=>0)
theorem Hb_ (h:Nat->Nat) (W:QV):∀is:List Nat,(∀i,i∈is->i<16)->(Op.eqItems 9999 225 1 (X_ h) za_ is).run QW W = .ok (is.all λi=>decide (h i=0)) W:=by
 have k:Tryz.prog.underlying 225=QJ (.int .u64):=by kernel_rfl
 intro is;induction is with
 | nil=>intro _;rfl
 | cons i is g=>
  intro hi;have h1:=dz_ h (hi i (VJ ..));have h2:za_[i]?=some (.int .u64 ((0:Nat):Int)):=dz_ (λ_=>0) (hi i (VJ ..));have d:=g (λj f=>hi j (List.mem_cons_of_mem _ f));obtain⟨a,e⟩:=a_ (X_ h);rw[e.o]at h1 d ⊢;obtain⟨b,hb⟩:=a_ za_;rw[hb.o]at h2 d ⊢;simp only[Op.eqItems,Nat.mul_one,List.all_cons];go_simp;by_cases hz:h i=0
  ·rw[iP_ hz,dT_ hz,Bool.true_and]
  ·rw[iN_ hz,dF_ hz,Bool.false_and]
theorem Cf_ {h:Nat->Nat}:∀n:Nat,pv h n=0↔∀i,i<n->h i=0:=by
 intro n;induction n with
 | zero=>exact⟨λ_ i hi=>absurd hi (Nat.not_lt_zero _),λ_=>rfl⟩
 | succ n d=>
  rw[pv,Nat.add_eq_zero_iff,d,Nat.mul_eq_zero];have b:bW ^ n≠0:=Nat.pos_iff_ne_zero.1 (Nat.pow_pos (by decide));constructor
  ·rintro⟨h1,h2⟩ i hi;rcases VZ i n with a | a
   ·exact h1 i a
   ·have:i=n:=by omega
    rw[this];rcases h2 with h2 | h2
    ·exact h2
    ·exact absurd h2 b
  ·intro h1;exact⟨λi hi=>h1 i (by omega),.inl (h1 n (by omega))⟩
theorem Lf_:(Tryz.prog.info? 225).map (λi=>(i.zero,i.size,i.bytes))=QJ (QJ (QY UY 0),1,8):=by kernel_rfl
theorem Nl_:Tryz.prog.eqGuardType Tryz.prog.depth 291=false:=by kernel_rfl
theorem Hc_ (h:Nat->Nat) (W:QV):(binOp .eql 291 (.agg (X_ h)) (.agg za_)).run QW W = .ok (XY (decide (pv h 16=0))) W:=by
 obtain⟨i,hi,_⟩:=info_parts Lf_;have a:Tryz.prog.cellsOf 225=1:=by kernel_rfl
 rw[run_eql_struct,run_equalIn_array W 9999 _ _ underlying291 hi,a,Hb_ h W (List.range 16) (λi hi=>List.mem_range.1 hi)];have e:((List.range 16).all λi=>decide (h i=0))=decide (pv h 16=0):=by rw[Bool.eq_iff_iff,decide_eq_true_iff,List.all_eq_true];exact⟨λh1=>(Cf_ 16).2 λi hi=>of_decide_eq_true (h1 i (List.mem_range.2 hi)),λh1 i hi=>dT_ ((Cf_ 16).1 h1 i (List.mem_range.1 hi))⟩
 rw[e];rfl
theorem vk_ (b:Bool) (n:Nat):(sgV b n).natAbs=n:=by
 cases b
 ·show ((n:Nat):Int).natAbs=n;omega
 ·show (-((n:Nat):Int)).natAbs=n;omega
theorem zx_ {s:ByteArray} (h:bl_ s=true):(e6_ s).natAbs<10 ^ 60:=by
 obtain⟨f,a,b,d⟩:=je_ h
 have h1:(e6_ s).natAbs=a0_ (a++b)*10 ^ (20-b.length):=by
  rw[o3_ d]
  cases f
  ·exact vk_ false _
  ·exact vk_ true _
 rw[h1];have h2:=zz_ (a++b) (by rw[List.all_append,d.da,d.db];rfl);have e:a0_ (a++b)*10 ^ (20-b.length)<10 ^ (a++b).length*10 ^ (20-b.length):=Nat.mul_lt_mul_of_pos_right h2 (Nat.pow_pos (by decide));rw[<-Nat.pow_add]at e;refine XZ e (Nat.pow_le_pow_right (by decide) ?_);rw[ZZ];have:=d.la;have:=d.lb;omega
theorem Iu_ {s:ByteArray} {f:Nat->Nat} (h:bl_ s=true) (a:pg_ s f):pv f 16<10 ^ 60:=by have h1:=zx_ h;rw[a.2,vk_]at h1;exact h1
theorem N8_ {x y:Nat} (h1:x<10 ^ 60) (h2:y<10 ^ 60):x+y<bW ^ 16:=by
 have e:∀x y p q r:Nat,x<p->y<p->q=p*10->q<=r->x+y<r:=λx y p q r a b c d=>by omega
 refine e x y (10 ^ 60) (10 ^ 61) _ h1 h2 (Nat.pow_succ ..) ?_;have f:bW ^ 16=10 ^ (9*16):=(Nat.pow_mul 10 9 16).symm;rw[f];exact Nat.pow_le_pow_right (by decide) (by decide)
theorem zp_ (n m:Bool) (f:Nat->Nat):(Z_ n f).setIfInBounds 0 (XY m)=Z_ m f:=by
 apply Array.ext_getElem?;intro j
 cases j with
 | zero=>rw[Array.getElem?_setIfInBounds,iP_ rfl,iP_ (by rw[t_];decide),gc_]
 | succ j=>
  rw[Array.getElem?_setIfInBounds,iN_ (by omega)];unfold Z_;rw[Array.getElem?_append_right (by simp),Array.getElem?_append_right (by simp)];rfl
theorem Kw_ {s t:ByteArray} {ng:Bool} {p:Nat} (d:sgV ng p=e6_ s + -e6_ t):es_ s t=if p=0 then 0 else if ng=true then -1 else 1:=by
 unfold es_;by_cases h0:p=0
 ·rw[iP_ h0];have:=(ys_ (b:=ng)).2 h0;rw[iN_ (by omega),iN_ (by omega)]
 ·rw[iN_ h0]
  cases ng with
  | true=>
   have a:sgV true p = -((p:Nat):Int):=rfl;rw[iP_ rfl,iP_ (by omega)]
  | false=>
   have a:sgV false p=((p:Nat):Int):=rfl;rw[iN_ (by omega),iP_ (by omega)];rfl
theorem Kx_ {s t:ByteArray} {f g h:Nat->Nat} {ng:Bool} (a:pg_ s f) (b:pg_ t g) (d:sgV ng (pv h 16)=sgV (bj_ s) (pv f 16)+sgV (!bj_ t) (pv g 16)) :
    es_ s t=if pv h 16=0 then 0 else if ng=true then -1 else 1:=
 Kw_ (d.trans (by rw[Cj_,<-a.2,<-b.2]))
def Mj_ (s t:ByteArray) (w:QV) (e:Ending) (w':QV):Prop:=e = YQ (QY QU (es_ s t))/\XW w.heap.size w w'
theorem wd_ (W:QV):(Instr.build 291 #[]).run QW W = .ok (.agg za_) W:=run_build W _ _ _ (by kernel_rfl)
theorem um_ (s t:ByteArray) (hs:bl_ s=true) (ht:bl_ t=true) (w:QV) (q:ad_ w) :
    Calls QW 212 #[QZ s,QZ t] w (Mj_ s t w):=by
 have ae:=q_ (Ge_ s t hs ht w q);have a5:=q_ (And.intro hs ht);clear hs ht q;go_enter func212,ntmps212
 go_wp2_with fail;refine ae.o.mono ?_;rintro e w2 ⟨f,g,rfl,a9,Z,q⟩;have J:=q_ a9;have HF:=q_ Z;have HG:=q_ q;obtain⟨n1,a6⟩:=a_ (bj_ s);obtain⟨r,a7⟩:=a_ (bj_ t);have a4:=q_ (λ(W:QV)=>I1_ n1 (!r) f g Z.1 q.1 (N8_ (Iu_ a5.o.1 Z) (Iu_ a5.o.2 q)) W);rw[a6.o,a7.o];obtain⟨E,m⟩:=n6_ n1 f;obtain⟨F,j⟩:=n6_ r g;obtain⟨Y,R⟩:=n6_ (!r) g;rw[m.o,j.o];rw[m.o,R.o]at a4;have a2:=q_ (show (Tryz.prog.info? 293).map (·.size)=QJ E.size from by rw[<-m.o,t_];kernel_rfl);have af:=q_ (show (Tryz.prog.info? 293).map (·.size)=QJ F.size from by rw[<-j.o,t_];kernel_rfl);have ag:=q_ (show (Tryz.prog.info? 293).map (·.size)=QJ Y.size from by rw[<-R.o,t_];kernel_rfl);have am:=q_ (show E.all (·.oneCell')=true from by rw[<-m.o];exact a9_ _ _);have ao:=q_ (show F.all (·.oneCell')=true from by rw[<-j.o];exact a9_ _ _);have b1:=q_ (show E.size=b5_.size from by rw[<-m.o,t_];rfl);have b2:=q_ (show F.size=b5_.size from by rw[<-j.o,t_];rfl);have aq:=q_ (show F.setIfInBounds 0 (XY (!r))=Y from by rw[<-j.o,<-R.o];exact zp_ _ _ _);have ak:=q_ (show F[0]?=QJ (XY r) from by rw[<-j.o];exact gc_ _ _);obtain⟨z,D⟩:=a_ w2.heap.size;obtain⟨w3,x⟩:=a_ ((w2.alloc (XX #[XY false,QY UY 0,QY UY 0,QY UY 0,QY UY 0,QY UY 0,QY UY 0,QY UY 0,QY UY 0,QY UY 0,QY UY 0,QY UY 0,QY UY 0,QY UY 0,QY UY 0,QY UY 0,QY UY 0] 293)).alloc (XX #[XY false,QY UY 0,QY UY 0,QY UY 0,QY UY 0,QY UY 0,QY UY 0,QY UY 0,QY UY 0,QY UY 0,QY UY 0,QY UY 0,QY UY 0,QY UY 0,QY UY 0,QY UY 0,QY UY 0] 293));have au:=q_ (show w3.heap[z]?=QJ (du_ b5_) from by rw[<-x.o,<-D.o];exact heap_alloc2_old w2 _ _);have az:=q_ (show w3.heap[z+1]?=QJ (du_ b5_) from by rw[<-x.o,<-D.o];exact heap_alloc2_new w2 _ _);have L:=q_ (show XW w2.heap.size w2 w3 from by rw[<-x.o];exact F_ _ _ _);have i:=q_ (And.intro x.o D.o);clear a9 Z q
 go_upto_region 2 with (first
  | ((with_reducible refine w_ 5 ?_);refine o_ rfl 293 _ _ rfl w2.heap.size b5_ E 293 rfl rfl (by have h:=au.o;rw[<-i.o.1,<-i.o.2]at h;exact h) b1.o a2.o am.o ?_;intro w4 U k)
  | ((with_reducible refine w_ 6 ?_);refine o_ rfl 293 _ _ rfl (w2.heap.size+1) b5_ F 293 rfl rfl (by have h:=az.o;rw[<-i.o.1,<-i.o.2]at h;exact k.heap h (show ¬w2.heap.size+1=w2.heap.size by omega)) b2.o af.o ao.o ?_;intro w5 V A))
 rw[i.o.2]at U V A ⊢;rw[i.o.1]at k;rw[i.o.2]at k;have av:=q_ (A.heap U (show ¬z=z+1 by omega));have P:=q_ V;have ad:=q_ (J.o.trans ((L.o.trans ((k.below (B:=w2.heap.size) (λb _ h=>by have h:b=z:=h;have:=D.o;omega) L.o.size).trans (A.below (B:=w2.heap.size) (λb _ h=>by have h:b=z+1:=h;have:=D.o;omega) (ZX L.o.size k.size)))).mono J.o.size));clear U V k A;have y0:w5.cell? ⟨z+1,0,QK⟩=QJ (XY r):=(UU _ _ _ _ _ _ P.o).trans ak.o;have yf:w5.frozen? ⟨z+1,0,QK⟩=false:=frozen_of_row _ _ _ _ _ P.o;go_upto_region 5 with fail;obtain⟨w6,y⟩:=a_ (w5.setCell ⟨z+1,0,QK⟩ (XY (!r)));have aw:=q_ (show w6.heap[z]?=QJ (du_ E) from by rw[<-y.o,heap_setCell_other _ _ _ _ (show z≠z+1 by omega)];exact av.o);have b0:=q_ (show w6.heap[z+1]?=QJ (du_ Y) from by rw[<-y.o,<-aq.o];exact heap_setCell_same _ _ _ _ _ _ P.o);have a0:=q_ (show XW w.heap.size w w6 from by rw[<-y.o];exact ad.o.setCell (by show w.heap.size<=z+1;have:=J.o.size;have:=D.o;omega) _);have ai:=q_ (m_ aw.o);have aj:=q_ (m_ b0.o);rw[y.o];clear y0 yf
 go_wp2_with (first
  | ((with_reducible refine d_ (some 22) ?_);refine G_ rfl 293 _ rfl z 0 rfl E _ (ai.o) underlying293 rfl a2.o ?_)
  | ((with_reducible refine d_ (some 23) ?_);refine G_ rfl 293 _ rfl (z+1) 0 rfl Y _ (aj.o) underlying293 rfl ag.o ?_))
 refine (a4.o w6).mono ?_;rintro e a ⟨ng,h,rfl,aa,hh,hv⟩;have v:=q_ (show es_ s t=if pv h 16=0 then 0 else if ng=true then -1 else 1 from Kx_ HF.o HG.o (by rw[a6.o,a7.o];exact hv))
 have a1:=q_ (a0.o.trans (aa.mono a0.o.size));obtain⟨d,C⟩:=n6_ ng h;obtain⟨I,S⟩:=s1_ h;obtain⟨u,a8⟩:∃u,EqU u (λ_=>0):=s1_ _;have N:=q_ (λW:QV=>(show (Instr.build 291 #[]).run QW W = .ok (.agg u) W from by rw[<-a8.o];exact wd_ W));have hq:∀W,(binOp .eql 291 (.agg I) (.agg u)).run QW W = .ok (XY (decide (pv h 16=0))) W:=λW=>by rw[<-S.o,<-a8.o];exact Hc_ h W
 obtain⟨p,Hp⟩:=a_ (pv h 16);rw[Hp.o]at hq v;rw[C.o];have ah:=q_ (show (Tryz.prog.info? 293).map (·.size)=QJ d.size from by rw[<-C.o,t_];kernel_rfl);have ap:=q_ (show d.all (·.oneCell')=true from by rw[<-C.o];exact a9_ _ _);have b3:=q_ (show d.size=b5_.size from by rw[<-C.o,t_];rfl);have O:=q_ (show (Tryz.prog.info? 291).map (·.size)=QJ I.size from by rw[<-S.o,ah_];kernel_rfl);have ar:=q_ (λ(W:QV) (hW:W.heap[a.heap.size]?=QJ (du_ d))=>(show W.rangeAt a.heap.size 1 I.toList/\W.cell? ⟨a.heap.size,0,QK⟩=QJ (XY ng) from by rw[<-C.o]at hW;rw[<-S.o];exact⟨hd_ (hp_ hW),l1_ hW⟩));have b5:=Nl_;have ay:=q_ (show (a.alloc (XX #[XY false,QY UY 0,QY UY 0,QY UY 0,QY UY 0,QY UY 0,QY UY 0,QY UY 0,QY UY 0,QY UY 0,QY UY 0,QY UY 0,QY UY 0,QY UY 0,QY UY 0,QY UY 0,QY UY 0] 293)).heap[a.heap.size]?=QJ (du_ b5_) from XU a _);clear aa hh hv Hp C
 go_upto_region 6 with (first
  | ((with_reducible refine w_ 8 ?_);refine o_ rfl 293 _ _ rfl a.heap.size b5_ d 293 rfl rfl ay.o b3.o ah.o ap.o ?_;intro w8 ab ac))
 have l:=q_ (ar.o w8 ab);have M:=q_ (a1.o.trans (((XV a.heap.size a).alloc (XK _) _ |>.trans (ac.below (B:=a.heap.size) (λb _ h=>by have h:b=a.heap.size:=h;omega) (by simp))).mono a1.o.size));have n0:w8.cell? ⟨a.heap.size,0,none⟩=some (XY ng):=l.o.2;obtain⟨z8,b4⟩:=a_ a.heap.size;rw[b4.o]at l n0 ⊢;clear ab ac;by_cases G:p=0
 ·have X:=q_ (show (0:Int)=es_ s t from by rw[v.o,iP_ G]);have n:decide (p=0)=true:=dT_ G;rw[n]at hq;clear G n
  go_wp2_with (first
   | ((with_reducible refine d_ (some 27) ?_);refine G_ rfl 291 _ rfl z8 1 rfl I _ (l.o.1) underlying291 rfl O.o ?_)
   | ((with_reducible refine d_ (some 28) ?_);refine W_ rfl 291 _ rfl #[] (by kernel_rfl) (.agg u) (N.o _) ?_))
  go_ret;exact⟨by rw[X.o];rfl,M.o⟩
 ·have n:decide (p=0)=false:=dF_ G;rw[n]at hq;have a3:=q_ G;clear G n
  cases ng with
  | true=>
   have X:=q_ (show (-1:Int)=es_ s t from by rw[v.o,iN_ a3.o,iP_ rfl])
   go_wp2_with (first
    | ((with_reducible refine d_ (some 27) ?_);refine G_ rfl 291 _ rfl z8 1 rfl I _ (l.o.1) underlying291 rfl O.o ?_)
    | ((with_reducible refine d_ (some 28) ?_);refine W_ rfl 291 _ rfl #[] (by kernel_rfl) (.agg u) (N.o _) ?_))
   go_ret;exact⟨by rw[X.o];rfl,M.o⟩
  | false=>
   have X:=q_ (show (1:Int)=es_ s t from by rw[v.o,iN_ a3.o,iN_ Bool.false_ne_true])
   go_wp2_with (first
    | ((with_reducible refine d_ (some 27) ?_);refine G_ rfl 291 _ rfl z8 1 rfl I _ (l.o.1) underlying291 rfl O.o ?_)
    | ((with_reducible refine d_ (some 28) ?_);refine W_ rfl 291 _ rfl #[] (by kernel_rfl) (.agg u) (N.o _) ?_))
   go_ret;exact⟨by rw[X.o];rfl,M.o⟩
def mo_ (a b:g_) (w:QV) (e:Ending) (w':QV):Prop:=e = YQ (QY QU (es_ (am_ a) (am_ b)))/\XW w.heap.size w w'
theorem Kv_ (a b:g_) (sa sb:XJ) (w:QV) (g:a.kind=2) (hb:b.kind=2) (d:cg_ a) (f:cg_ b) :
    Calls QW 129 #[.agg (c_ a sa),.agg (c_ b sb)] w (mo_ a b w):=by
 have h:=q_ (λW:QV=>C3_ a.num b.num W);have i:=q_ (show es_ (am_ a) (am_ b)=c7_ a.num b.num from by unfold am_;rw[iP_ g,iP_ hb,C5_ d.n0 d.n1 f.n0 f.n1];rfl);unfold mo_;rw[i.o];clear i d f;obtain⟨v,j⟩:=a_ (c7_ a.num b.num);rw[j.o]at h ⊢;clear j
 cases a with
 | mk q n n1 x A s=>
 cases b with
 | mk r p u y B t=>
 unfold c_;simp only[g_.kind,g_.truth,g_.num,g_.text,g_.extra]at h g hb ⊢;subst g;subst hb;have k:=q_ (λl m:Obj=>F_ w l m);go_enter func129,ntmps129
 go_wp2_with fail;refine (h.o _).mono ?_;rintro e z ⟨rfl,rfl⟩;go_wp2_with fail;go_ret;exact⟨rfl,k.o _ _⟩
theorem p3_ (a b:g_) (sa sb:XJ) (w:QV) (hk:(a.kind=2/\b.kind=3)\/(a.kind=3/\b.kind=2)\/(a.kind=3/\b.kind=3)) (y:cg_ a) (A:cg_ b) (u:ad_ w) (D:ci_ w) :
    Calls QW 129 #[.agg (c_ a sa),.agg (c_ b sb)] w (mo_ a b w):=by
 rcases hk with⟨E,hb⟩ | ⟨E,hb⟩ | ⟨E,hb⟩<;>(
 have s:=q_ (λ(W:QV) (r:XW w.heap.size w W)=>so_ a sa y.n0 y.n1 y.ts W (j_ u r) (K_ D r));have t:=q_ (λ(W:QV) (r:XW w.heap.size w W)=>so_ b sb A.n0 A.n1 A.ts W (j_ u r) (K_ D r));have p:=q_ (λ(W:QV) (r:XW w.heap.size w W)=>um_ (am_ a) (am_ b) (hj_ y.n0 y.n1) (hj_ A.n0 A.n1) W (j_ u r));unfold mo_;unfold Mj_ at p;unfold pd_ at s t;obtain⟨X1,G⟩:=a_ (am_ a);obtain⟨X2,I⟩:=a_ (am_ b);rw[G.o]at s p ⊢;rw[I.o]at t p ⊢;obtain⟨c,Hc⟩:=a_ (es_ X1 X2);rw[Hc.o]at p ⊢;clear Hc G I;have v:(c_ a sa)[0]?=QJ (QY QU a.kind):=rfl;have x:(c_ b sb)[0]?=QJ (QY QU b.kind):=rfl;rw[E]at v;rw[hb]at x;obtain⟨l,J⟩:=L_ a sa;obtain⟨m,L⟩:=L_ b sb;rw[J.o]at s v ⊢;rw[L.o]at t x ⊢;have Q1:=q_ J.size;have Q2:=q_ L.size;obtain⟨z,P⟩:=a_ w.heap.size;obtain⟨d,i⟩:=a_ ((w.alloc (XX l 39)).alloc (XX m 39));have q:=q_ (show XW w.heap.size w d from by rw[<-i.o];exact F_ w _ _);have j:=q_ (show d.heap[z]?=QJ (XX l 39 (0,0)) from by rw[<-i.o,<-P.o];exact heap_alloc2_old w _ _);have k:=q_ (show d.heap[z+1]?=QJ (XX m 39 (0,0)) from by rw[<-i.o,<-P.o];exact heap_alloc2_new w _ _);have p0:d.cell? ⟨z,0,QK⟩=QJ (QY QU _):=(UU _ _ _ _ _ _ j.o).trans v;have q0:d.cell? ⟨z+1,0,QK⟩=QJ (QY QU _):=(UU _ _ _ _ _ _ k.o).trans x;clear v x E hb y A u D;go_enter func129,ntmps129
 go_upto_region 1 with fail;rw[i.o,P.o];clear i;go_upto_region 3 with fail;have s1:=q_ (show d.drew.heap[z]?=QJ (XX l 39 (0,0))/\d.drew.heap[z+1]?=QJ (XX m 39 (0,0)) from ⟨j.o,k.o⟩);have R:=q_ (show XW w.heap.size w d.drew from q.o.drew);refine UZ (S:=λW'=>W'.heap[z]?=QJ (XX l 39 (0,0))/\W'.heap[z+1]?=QJ (XX m 39 (0,0))) (by kernel_rfl) s1.o λf=>?_;refine H_.o ?_;refine tlW 0 18 (.agg l) f (λw C=>?_) λf=>?_
 ·exact k_ (cb_ C.1 39 _ YV rfl (by rw[Q1.o];kernel_rfl))
 refine tlW 2 20 (.agg m) f (λw C=>?_) λf=>?_
 ·exact k_ (cb_ C.2 39 _ YV rfl (by rw[Q2.o];kernel_rfl))
 refine tlC 1 (λK n=>?_);go_simp;refine (s.o d.drew R.o).mono ?_;rintro e F ⟨rfl,M⟩;have g:=q_ (show XW d.heap.size d F from a1_ M);have U:=q_ (q.o.trans (g.o.mono q.o.size));have Y:=q_ (show F.heap[z]?=QJ (XX l 39 (0,0))/\F.heap[z+1]?=QJ (XX m 39 (0,0)) from ⟨(g.o.block z (b_ j.o)).trans j.o,(g.o.block (z+1) (b_ k.o)).trans k.o⟩);clear M;dsimp only;refine tlB n Y.o (λf=>?_);clear n K;refine tlC 3 (λK n=>?_);go_simp;refine (t.o F U.o).mono ?_;rintro e w5 ⟨rfl,N⟩;have h:=q_ (g.o.trans (N.mono g.o.size));have V:=q_ (q.o.trans (h.o.mono q.o.size));have Z:=q_ (show w5.heap[z]?=QJ (XX l 39 (0,0))/\w5.heap[z+1]?=QJ (XX m 39 (0,0)) from ⟨(h.o.block z (b_ j.o)).trans j.o,(h.o.block (z+1) (b_ k.o)).trans k.o⟩);clear N;dsimp only;refine tlB n Z.o (λf=>?_);clear n K;refine tlC 4 (λK n=>?_);go_simp;refine (p.o w5 V.o).mono ?_;rintro e w6 ⟨rfl,O⟩;have B:=q_ (h.o.trans (O.mono h.o.size));have X:=q_ (q.o.trans (B.o.mono q.o.size));have a0:=q_ (show w6.heap[z]?=QJ (XX l 39 (0,0))/\w6.heap[z+1]?=QJ (XX m 39 (0,0)) from ⟨(B.o.block z (b_ j.o)).trans j.o,(B.o.block (z+1) (b_ k.o)).trans k.o⟩);clear O;dsimp only;refine tlB n a0.o (λf=>?_);clear n K;refine O_ 5 4 (QY QU c) f (λf=>?_);refine⟨VX (by kernel_rfl) ?_ _⟩;clear f;go_wp2_with fail;go_ret;exact⟨rfl,X.o⟩)
theorem Gq_ (a b:g_) (sa sb:XJ) (w:QV) (d:a.kind=2\/a.kind=3) (hb:b.kind=2\/b.kind=3) (g:cg_ a) (h:cg_ b) (e:ad_ w) (f:ci_ w) :
    Calls QW 129 #[.agg (c_ a sa),.agg (c_ b sb)] w (mo_ a b w):=by
 rcases d with d | d
 ·rcases hb with hb | hb
  ·exact Kv_ a b sa sb w d hb g h
  ·exact p3_ a b sa sb w (.inl ⟨d,hb⟩) g h e f
 ·rcases hb with hb | hb
  ·exact p3_ a b sa sb w (.inr (.inl ⟨d,hb⟩)) g h e f
  ·exact p3_ a b sa sb w (.inr (.inr ⟨d,hb⟩)) g h e f
theorem km_ (x y:Int) (w:QV):Calls QW 126 #[QY QU x,QY QU y] w λe w'=>e = YQ (QY QU (c7_ x y))/\w'=w:=by
 refine (Any.cmp_Compare_int Tryz.lays122 x y w).mono ?_;rintro e w' ⟨rfl,a⟩;refine⟨q8_ ?_,a⟩;unfold Lib.compareInt c7_
 (repeat' split)<;>first | rfl | (exfalso;omega)
theorem Lw_ (x y:Int) (g n:Nat) (w:QV) (h0:w.cell? ⟨g,0,QK⟩=QJ (QY QU x)) (h1:w.cell? ⟨g,1,QK⟩=QJ (QY QU y)) :
    Calls QW 135 #[QQ (QJ ⟨g,0,QK⟩) 2 n] w λe w'=>e = YQ (QY QU (ar_ x y))/\w'=w:=by
 obtain⟨v,a⟩:=a_ (ar_ x y);rw[a.o];unfold ar_ at a;go_enter func135,ntmps135
 go_wp2_with fail;go_loopw [8] (λl s=>∃k:Nat,k<=2/\l = QY QU (k:Nat)/\s=w/\Q_ ((0<k->x=0)/\(1<k->y=0))) (λl _=>2-(intOf l).toNat)
 case atStart=>exact⟨0,by omega,rfl,rfl,q_ ⟨λh=>absurd h (by omega),λh=>absurd h (by omega)⟩⟩
 case round=>
  obtain⟨k,t,rfl,rfl,hz⟩:=hrel;by_cases j:k=2
  ·subst j;have d:=q_ (show v=0 from by rw[<-a.o,iP_ (hz.o.1 (by omega)),hz.o.2 (by omega)]);clear hz a;go_wp2_with fail;go_ret;exact⟨q8_ d.o.symm,rfl⟩
  ·by_cases i:k=1
   ·subst i;have e0:=q_ (hz.o.1 (by omega));clear hz;by_cases f:y=0
    ·have m:(y != 0)=false:=by simpa using f
     have r:=q_ f;clear f a;go_wp2_with fail;go_roundw
     case rel=>exact⟨2,by omega,(by first | rfl | trivial),(by first | rfl | trivial),q_ ⟨λ_=>e0.o,λ_=>r.o⟩⟩
     case measure=>simp[intOf]
    ·have m:(y != 0)=true:=bne_iff_ne.2 f;have d:=q_ (show v=y from by rw[<-a.o,iP_ e0.o]);clear f a;go_wp2_with fail;go_ret;exact⟨q8_ d.o.symm,rfl⟩
   ·have p:k=0:=by omega
    subst p;clear i j hz;by_cases b:x=0
    ·have m:(x != 0)=false:=by simpa using b
     have q:=q_ b;clear b a;go_wp2_with fail;go_roundw
     case rel=>exact⟨1,by omega,(by first | rfl | trivial),(by first | rfl | trivial),q_ ⟨λ_=>q.o,λh=>absurd h (by omega)⟩⟩
     case measure=>simp[intOf]
    ·have m:(x != 0)=true:=bne_iff_ne.2 b;have d:=q_ (show v=x from by rw[<-a.o,iN_ b]);clear b a;go_wp2_with fail;go_ret;exact⟨q8_ d.o.symm,rfl⟩
theorem mt_ (y:XJ) (w:QV):(YX (UX 194 y) 20 188 true).run QW w = .ok (ZJ #[QY QU 0,XY false]) w:=by kernel_rfl
theorem la_ (y:XJ) (w:QV):(YX (UX 194 y) 20 189 true).run QW w = .ok (ZJ #[QZ ⟨#[]⟩,XY false]) w:=by kernel_rfl
theorem od_ (y:XJ) (w:QV):(YX (UX 194 y) 20 191 true).run QW w = .ok (ZJ #[QQ QK 0 0,XY false]) w:=by kernel_rfl
theorem ms_ (y:XJ) (w:QV):(YX (UX 194 y) 20 193 true).run QW w = .ok (ZJ #[QY QU 0,XY false]) w:=by kernel_rfl
theorem ke_ (y:XJ) (w:QV):(YX (UX 194 y) 20 194 true).run QW w = .ok (ZJ #[y,XY true]) w:=by kernel_rfl
theorem pj_ (y:XJ) (w:QV):(YX (UX 188 y) 20 188 true).run QW w = .ok (ZJ #[y,XY true]) w:=by kernel_rfl
theorem og_ (y:XJ) (w:QV):(YX (UX 188 y) 20 189 true).run QW w = .ok (ZJ #[QZ ⟨#[]⟩,XY false]) w:=by kernel_rfl
theorem oe_ (y:XJ) (w:QV):(YX (UX 189 y) 20 188 true).run QW w = .ok (ZJ #[QY QU 0,XY false]) w:=by kernel_rfl
theorem mu_ (y:XJ) (w:QV):(YX (UX 189 y) 20 189 true).run QW w = .ok (ZJ #[y,XY true]) w:=by kernel_rfl
theorem pl_ (y:XJ) (w:QV):(YX (UX 234 y) 20 188 true).run QW w = .ok (ZJ #[QY QU 0,XY false]) w:=by kernel_rfl
theorem oh_ (y:XJ) (w:QV):(YX (UX 234 y) 20 189 true).run QW w = .ok (ZJ #[QZ ⟨#[]⟩,XY false]) w:=by kernel_rfl
theorem rn_ (y:XJ) (w:QV):(YX (UX 234 y) 20 191 true).run QW w = .ok (ZJ #[QQ QK 0 0,XY false]) w:=by kernel_rfl
theorem pk_ (y:XJ) (w:QV):(YX (UX 234 y) 20 193 true).run QW w = .ok (ZJ #[QY QU 0,XY false]) w:=by kernel_rfl
theorem mx_ (y:XJ) (w:QV):(YX (UX 234 y) 20 194 true).run QW w = .ok (ZJ #[XY false,XY false]) w:=by kernel_rfl
theorem mw_ (y:XJ) (w:QV):(YX (UX 237 y) 20 188 true).run QW w = .ok (ZJ #[QY QU 0,XY false]) w:=by kernel_rfl
theorem lb_ (y:XJ) (w:QV):(YX (UX 237 y) 20 189 true).run QW w = .ok (ZJ #[QZ ⟨#[]⟩,XY false]) w:=by kernel_rfl
theorem of_ (y:XJ) (w:QV):(YX (UX 237 y) 20 191 true).run QW w = .ok (ZJ #[QQ QK 0 0,XY false]) w:=by kernel_rfl
theorem mv_ (y:XJ) (w:QV):(YX (UX 237 y) 20 193 true).run QW w = .ok (ZJ #[QY QU 0,XY false]) w:=by kernel_rfl
theorem kf_ (y:XJ) (w:QV):(YX (UX 237 y) 20 194 true).run QW w = .ok (ZJ #[XY false,XY false]) w:=by kernel_rfl
theorem v4_ (w:QV) (a b c:Obj):(((w.alloc a).alloc b).alloc c).heap[w.heap.size]?=QJ a:=by rw[Below.heap_alloc _ _ _ (by simp;omega),Below.heap_alloc _ _ _ (by simp)];exact XU w a
theorem v5_ (w:QV) (a b c:Obj):(((w.alloc a).alloc b).alloc c).heap[w.heap.size+1]?=QJ b:=by rw[Below.heap_alloc _ _ _ (by simp)];have:=XU (w.alloc a) b;rwa [show (w.alloc a).heap.size=w.heap.size+1 by simp]at this
theorem v6_ (w:QV) (a b c:Obj):(((w.alloc a).alloc b).alloc c).heap[w.heap.size+2]?=QJ c:=by have:=XU ((w.alloc a).alloc b) c;rwa [show ((w.alloc a).alloc b).heap.size=w.heap.size+2 by simp]at this
def yf_ (a b:g_):Int:=ar_ (c7_ a.kind b.kind) (if a.kind=3 then ec_ a.text.data.toList b.text.data.toList else 0)
theorem Em_ {a b:g_} (d:a.kind=2\/a.kind=3) (hb:b.kind=2\/b.kind=3) (h:¬(a.kind=3/\b.kind=3)):yf_ a b=c7_ a.kind b.kind:=by
 unfold yf_;rcases d with d | d<;>rcases hb with hb | hb<;>rw[d,hb]
 ·rfl
 ·rfl
 ·rfl
 ·exact absurd ⟨d,hb⟩ h
theorem En_ {a b:g_} (h:a.kind=3/\b.kind=3):yf_ a b=ec_ a.text.data.toList b.text.data.toList:=by unfold yf_;rw[h.1,h.2];rfl
def zh_ (z:Nat) (A B:Array XJ) (W:QV):Prop:=W.heap[z+1]?=QJ (XX A 39 (0,0))/\W.heap[z+2]?=QJ (XX B 39 (0,0))
theorem xy_ (a b:g_) (sa sb:XJ) (w:QV) (hk:a.kind=1\/a.kind=2\/a.kind=3\/a.kind=4\/a.kind=8\/a.kind=9\/a.kind=10) (fa:cg_ a) (fb:cg_ b) (a0:ad_ w) (a1:ci_ w) :
    Calls QW 68 #[QY QU 1,.agg (c_ a sa),.agg (c_ b sb)] w (b7_ a b w):=by
 have a2:=q_ (λW:QV=>te_ a sa W);have a3:=q_ (λW:QV=>te_ b sb W);have ab:=q_ (λW:QV=>km_ (B_ a.kind) (B_ b.kind) W);have HA:=q_ (And.intro (And.intro fa fb) (And.intro a0 a1));have aa:=q_ hk;unfold F1_ at a2 a3;obtain⟨v,Z⟩:=a_ (y_ a b);have HE:=q_ (show ∀w',XW w.heap.size w w'->b7_ a b w (YQ (QY QU v)) w' from λw' hb=>⟨by rw[Z.o],hb⟩);obtain⟨r1,H1⟩:=a_ (B_ a.kind);obtain⟨r2,H2⟩:=a_ (B_ b.kind);rw[H1.o]at a2;rw[H2.o]at a3;obtain⟨cc,a9⟩:=a_ (c7_ r1 r2);rw[H1.o,H2.o,a9.o]at ab;have Y:=q_ (show c7_ (B_ a.kind) (B_ b.kind)=cc from by rw[H1.o,H2.o,a9.o]);clear a9;clear H1 H2;obtain⟨c1,B⟩:=L_ a sa;obtain⟨c2,C⟩:=L_ b sb;rw[B.o]at a2 ⊢;rw[C.o]at a3 ⊢;have Q1:=q_ B.size;have Q2:=q_ C.size;obtain⟨z,Hz⟩:=a_ w.heap.size;obtain⟨N,R⟩:=a_ (((w.alloc (XX #[QY QU 1] 3)).alloc (XX c1 39)).alloc (XX c2 39));have HB:=q_ (show XW w.heap.size w N from by rw[<-R.o];exact (F_ w _ _).alloc (by simp;omega) _);have HL:=q_ (show N.heap[z]?=QJ (XX #[QY QU 1] 3 (0,0)) from by rw[<-R.o,<-Hz.o];exact v4_ w _ _ _);have HX:=q_ (show N.heap[z+1]?=QJ (XX c1 39 (0,0)) from by rw[<-R.o,<-Hz.o];exact v5_ w _ _ _);have HY:=q_ (show N.heap[z+2]?=QJ (XX c2 39 (0,0)) from by rw[<-R.o,<-Hz.o];exact v6_ w _ _ _);clear hk fa fb a0 a1;go_enter func68,ntmps68
 go_upto_region 1 with fail;rw[R.o,Hz.o];clear R;have s1:=q_ (show N.drew.heap[z]?=QJ (XX #[QY QU 1] 3 (0,0))/\N.drew.heap[z+1]?=QJ (XX c1 39 (0,0))/\N.drew.heap[z+2]?=QJ (XX c2 39 (0,0)) from ⟨HL.o,HX.o,HY.o⟩);refine UZ (S:=λW'=>W'.heap[z]?=QJ (XX #[QY QU 1] 3 (0,0))/\W'.heap[z+1]?=QJ (XX c1 39 (0,0))/\W'.heap[z+2]?=QJ (XX c2 39 (0,0))) (by kernel_rfl) s1.o λd=>?_;refine H_.o ?_;refine tlW 0 13 (QY QU 1) d (λw j=>?_) λd=>?_
 ·have p:=QX j.1 0;unfold z_;go_simp
 refine tlW 1 14 (.agg c1) d (λw j=>?_) λd=>?_
 ·exact k_ (cb_ j.2.1 39 _ YV rfl (by rw[Q1.o];kernel_rfl))
 refine tlW 3 16 (QY QU 1) d (λw j=>?_) λd=>?_
 ·have p:=QX j.1 0;unfold z_;go_simp
 refine tlW 4 17 (.agg c2) d (λw j=>?_) λd=>?_
 ·exact k_ (cb_ j.2.2 39 _ YV rfl (by rw[Q2.o];kernel_rfl))
 refine tlC 2 λK i=>?_;go_simp;refine (a2.o N.drew).mono ?_;rintro e w2 ⟨rfl,aj⟩;have P:=q_ (show XW N.heap.size N w2 from a1_ aj);have ag:=q_ (show w2.heap[z]?=some (XX #[QY QU 1] 3 (0,0))/\w2.heap[z+1]?=some (XX c1 39 (0,0))/\w2.heap[z+2]?=some (XX c2 39 (0,0)) from ⟨(P.o.block z (b_ HL.o)).trans HL.o,(P.o.block (z+1) (b_ HX.o)).trans HX.o,(P.o.block (z+2) (b_ HY.o)).trans HY.o⟩);clear aj;dsimp only;refine tlB i ag.o λd=>?_;clear i K;refine tlC 5 λK i=>?_;go_simp;refine (a3.o w2).mono ?_;rintro e l ⟨rfl,ak⟩;have E:=q_ (P.o.trans (ak.mono P.o.size));have t:=q_ (show l.heap[z]?=some (XX #[QY QU 1] 3 (0,0))/\l.heap[z+1]?=some (XX c1 39 (0,0))/\l.heap[z+2]?=some (XX c2 39 (0,0)) from ⟨(E.o.block z (b_ HL.o)).trans HL.o,(E.o.block (z+1) (b_ HX.o)).trans HX.o,(E.o.block (z+2) (b_ HY.o)).trans HY.o⟩);clear ak;dsimp only;refine tlB i t.o λd=>?_;clear i K;refine tlC 6 λK i=>?_;go_simp;refine (ab.o l).mono ?_;rintro e w4 ⟨rfl,ba⟩;subst w4;dsimp only;refine tlB i t.o λd=>?_;clear i K;refine O_ 7 7 (QY QU cc) d λd=>?_;refine⟨VX (by kernel_rfl) ?_ _⟩;clear d;have I:=q_ (HB.o.trans (E.o.mono HB.o.size));clear a2 a3 ab HL HX HY P ag s1;obtain⟨⟨fa,fb⟩,a0,a1⟩:=HA.o;by_cases V:B_ a.kind=B_ b.kind
 ·have ec:cc=0:=by rw[<-Y.o,V];exact fg_ _
  subst ec
  have b3:((a.kind=2\/a.kind=3)/\(b.kind=2\/b.kind=3))\/(a.kind=1/\b.kind=1)\/((a.kind=4\/a.kind=8\/a.kind=9\/a.kind=10)/\b.kind=a.kind):=by
   have hk:=aa.o;rcases jo_ V with e | e | e
   ·omega
   ·exact .inl e
   ·exfalso;have h2:=e.1;rcases hk with h | h | h | h | h | h | h<;>(rw[h]at h2;revert h2;decide)
  clear Y aa V HA;rcases b3 with⟨s,hb⟩ | ⟨s,hb⟩ | ⟨s,hb⟩
  ·skip
   rcases s with s | s<;>rcases hb with hb | hb<;>(
   obtain⟨u,Hu⟩:=a_ (yf_ a b);have y:=q_ (show y_ a b=ar_ (es_ (am_ a) (am_ b)) u from by rw[xz_ (by omega) (by omega),<-Hu.o];rfl);have U:=q_ (λ(W:QV) (hW:XW w.heap.size w W)=>Gq_ a b sa sb W (by omega) (by omega) fa fb (j_ a0 hW) (K_ a1 hW));unfold mo_ at U;obtain⟨c,Hc⟩:=a_ (es_ (am_ a) (am_ b));rw[Hc.o]at y U;clear Hc;have am:=q_ (λ(W:QV) (h:¬(a.kind=3/\b.kind=3))=>(show Calls QW 126 #[QY QU a.kind,QY QU b.kind] W (λe w'=>e = YQ (QY QU u)/\w'=W) from by rw[<-Hu.o,Em_ (by omega) (by omega) h];exact km_ _ _ W));have ap:=q_ (λ(W:QV) (h:a.kind=3/\b.kind=3)=>(show Calls QW 130 #[QZ a.text,QZ b.text] W (λe w'=>e = YQ (QY QU u)/\w'=W) from by rw[<-Hu.o,En_ h];exact kn_ _ _ W));clear Hu;rw[Z.o]at y;clear Z;have f:=q_ (show l.heap[z+1]?=QJ (XX (c_ a sa) 39 (0,0))/\l.heap[z+2]?=QJ (XX (c_ b sb) 39 (0,0)) from by rw[B.o,C.o];exact⟨t.o.2.1,t.o.2.2⟩);clear t Q1 Q2 B C;have g:=q_ (λW:QV=>i3_ a sa W);unfold j7_ at g
   cases a with
   | mk k1 n x k r l1=>
   cases b with
   | mk k2 J X M O l2=>
   unfold c_ at f g U;simp only[g_.kind,g_.truth,g_.num,g_.text,g_.extra]at f g U am ap s hb;subst s;subst hb;have g:=q_ (λW:QV=>(show Calls QW 128 #[.agg #[QY QU _,XY n,QY QU x,QZ k,QZ r,sa]] W (λe w'=>e = YQ (UX _ _)/\XW W.heap.size W w') from g.o W));try simp only[g_.num,g_.text,g_.extra]at g
   have aw:=pj_ (QY QU x);have ay:=og_ (QY QU x);have az:=oe_ (QZ k);have b0:=mu_ (QZ k);have p0:l.cell? ⟨z+1,0,none⟩=some (QY QU _):=QX f.o.1 0;have p1:l.cell? ⟨z+1,1,none⟩=some (XY n):=QX f.o.1 1;have p2:l.cell? ⟨z+1,2,none⟩=some (QY QU x):=QX f.o.1 2;have p3:l.cell? ⟨z+1,3,none⟩=some (QZ k):=QX f.o.1 3;have p4:l.cell? ⟨z+1,4,none⟩=some (QZ r):=QX f.o.1 4;have p5:l.cell? ⟨z+1,5,none⟩=some sa:=QX f.o.1 5;go_wp2_with fail;refine (g.o _).mono ?_;rintro e w5 ⟨rfl,q⟩;clear g p0 p1 p2 p3 p4 p5;have A:=q_ (I.o.trans (q.mono I.o.size));have m:=q_ (show w5.heap[z+1]?=some (XX #[QY QU _,XY n,QY QU x,QZ k,QZ r,sa] 39 (0,0))/\w5.heap[z+2]?=some (XX #[QY QU _,XY J,QY QU X,QZ M,QZ O,sb] 39 (0,0)) from ⟨(q.block _ (b_ f.o.1)).trans f.o.1,(q.block _ (b_ f.o.2)).trans f.o.2⟩);clear q f I E HB;have p0:w5.cell? ⟨z+1,0,none⟩=some (QY QU _):=QX m.o.1 0;have p1:w5.cell? ⟨z+1,1,none⟩=some (XY n):=QX m.o.1 1;have p2:w5.cell? ⟨z+1,2,none⟩=some (QY QU x):=QX m.o.1 2;have p3:w5.cell? ⟨z+1,3,none⟩=some (QZ k):=QX m.o.1 3;have p4:w5.cell? ⟨z+1,4,none⟩=some (QZ r):=QX m.o.1 4;have p5:w5.cell? ⟨z+1,5,none⟩=some sa:=QX m.o.1 5;have q0:w5.cell? ⟨z+2,0,none⟩=some (QY QU _):=QX m.o.2 0;have q1:w5.cell? ⟨z+2,1,none⟩=some (XY J):=QX m.o.2 1;have q2:w5.cell? ⟨z+2,2,none⟩=some (QY QU X):=QX m.o.2 2;have q3:w5.cell? ⟨z+2,3,none⟩=some (QZ M):=QX m.o.2 3;have q4:w5.cell? ⟨z+2,4,none⟩=some (QZ O):=QX m.o.2 4;have q5:w5.cell? ⟨z+2,5,none⟩=some sb:=QX m.o.2 5;go_wp2_with fail;refine (U.o _ A.o).mono ?_;rintro e w6 ⟨rfl,a8⟩;have a7:=q_ (A.o.trans (a8.mono A.o.size));have D:=q_ (And.intro ((a8.block _ (b_ m.o.1)).trans m.o.1) ((a8.block _ (b_ m.o.2)).trans m.o.2));clear a8 p0 p1 p2 p3 p4 p5 q0 q1 q2 q3 q4 q5 U;by_cases hc:c=0
   ·subst hc;have hv:=q_ (y.o.trans (Y_ _));clear y;have p0:w6.cell? ⟨z+1,0,QK⟩=QJ (QY QU _):=QX D.o.1 0;have p1:w6.cell? ⟨z+1,1,QK⟩=QJ (XY n):=QX D.o.1 1;have p2:w6.cell? ⟨z+1,2,QK⟩=QJ (QY QU x):=QX D.o.1 2;have p3:w6.cell? ⟨z+1,3,QK⟩=QJ (QZ k):=QX D.o.1 3;have p4:w6.cell? ⟨z+1,4,QK⟩=QJ (QZ r):=QX D.o.1 4;have p5:w6.cell? ⟨z+1,5,QK⟩=QJ sa:=QX D.o.1 5;have q0:w6.cell? ⟨z+2,0,QK⟩=QJ (QY QU _):=QX D.o.2 0;have q1:w6.cell? ⟨z+2,1,QK⟩=QJ (XY J):=QX D.o.2 1;have q2:w6.cell? ⟨z+2,2,QK⟩=QJ (QY QU X):=QX D.o.2 2;have q3:w6.cell? ⟨z+2,3,QK⟩=QJ (QZ M):=QX D.o.2 3;have q4:w6.cell? ⟨z+2,4,QK⟩=QJ (QZ O):=QX D.o.2 4;have q5:w6.cell? ⟨z+2,5,QK⟩=QJ sb:=QX D.o.2 5;go_wp2_with fail;refine Calls.mono (by first | exact am.o _ (by decide) | exact ap.o _ (by decide)) ?_;rintro e w7 ⟨rfl,bb⟩;subst w7;go_wp2_with fail;go_ret;have:=HE.o _ a7.o;rwa [hv.o]at this
   ·have e1:(c != 0)=true:=bne_iff_ne.2 hc;have hv:=q_ (show v=c from y.o.trans (cx_ hc));clear hc y;go_wp2_with fail;go_ret;have:=HE.o _ a7.o;rwa [hv.o]at this)
  ·skip
   have y:=q_ (show y_ a b=c7_ (if a.truth=true then 1 else 0) (if b.truth=true then 1 else 0) from s5_ s hb)
   have a5:=q_ (λW:QV=>ri_ a.truth W);have a6:=q_ (λW:QV=>ri_ b.truth W);obtain⟨u1,F⟩:=a_ (if a.truth=true then (1:Int) else 0)
   obtain⟨u2,G⟩:=a_ (if b.truth=true then (1:Int) else 0)
   rw[F.o,G.o]at y;rw[F.o]at a5;rw[G.o]at a6;have ac:=q_ (λW:QV=>km_ u1 u2 W);clear F G;rw[Z.o]at y;clear Z;have f:=q_ (show l.heap[z+1]?=QJ (XX (c_ a sa) 39 (0,0))/\l.heap[z+2]?=QJ (XX (c_ b sb) 39 (0,0)) from by rw[B.o,C.o];exact⟨t.o.2.1,t.o.2.2⟩);clear t Q1 Q2 B C;have g:=q_ (λW:QV=>i3_ a sa W);unfold j7_ at g
   cases a with
   | mk k1 n x k r l1=>
   cases b with
   | mk k2 J X M O l2=>
   unfold c_ at f g ;simp only[g_.kind,g_.truth,g_.num,g_.text,g_.extra]at f g a5 a6 s hb;subst s;subst hb;have g:=q_ (λW:QV=>(show Calls QW 128 #[.agg #[QY QU 1,XY n,QY QU x,QZ k,QZ r,sa]] W (λe w'=>e = YQ (UX 194 (XY n))/\XW W.heap.size W w') from g.o W));try simp only[g_.num,g_.text,g_.extra]at g
   have ar:=mt_ (XY n);have ai:=la_ (XY n);have au:=od_ (XY n);have aq:=ms_ (XY n);have af:=ke_ (XY n);have p0:l.cell? ⟨z+1,0,QK⟩=QJ (QY QU 1):=QX f.o.1 0;have p1:l.cell? ⟨z+1,1,QK⟩=QJ (XY n):=QX f.o.1 1;have p2:l.cell? ⟨z+1,2,QK⟩=QJ (QY QU x):=QX f.o.1 2;have p3:l.cell? ⟨z+1,3,QK⟩=QJ (QZ k):=QX f.o.1 3;have p4:l.cell? ⟨z+1,4,QK⟩=QJ (QZ r):=QX f.o.1 4;have p5:l.cell? ⟨z+1,5,QK⟩=QJ sa:=QX f.o.1 5;go_wp2_with fail;refine (g.o _).mono ?_;rintro e w5 ⟨rfl,q⟩;clear g p0 p1 p2 p3 p4 p5;have A:=q_ (I.o.trans (q.mono I.o.size));have m:=q_ (show w5.heap[z+1]?=QJ (XX #[QY QU 1,XY n,QY QU x,QZ k,QZ r,sa] 39 (0,0))/\w5.heap[z+2]?=QJ (XX #[QY QU 1,XY J,QY QU X,QZ M,QZ O,sb] 39 (0,0)) from ⟨(q.block _ (b_ f.o.1)).trans f.o.1,(q.block _ (b_ f.o.2)).trans f.o.2⟩);clear q f I E HB;have ac:=q_ (λW:QV=>(show Calls QW 126 #[QY QU u1,QY QU u2] W (λe w'=>e = YQ (QY QU v)/\w'=W) from by rw[y.o];exact ac.o W));go_upto_region 21 with fail;have L:=q_ (show w5.drew.heap[z+1]?=QJ (XX #[QY QU 1,XY n,QY QU x,QZ k,QZ r,sa] 39 (0,0))/\w5.drew.heap[z+2]?=QJ (XX #[QY QU 1,XY J,QY QU X,QZ M,QZ O,sb] 39 (0,0)) from m.o);refine UZ (S:=λW'=>W'.heap[z+1]?=QJ (XX #[QY QU 1,XY n,QY QU x,QZ k,QZ r,sa] 39 (0,0))/\W'.heap[z+2]?=QJ (XX #[QY QU 1,XY J,QY QU X,QZ M,QZ O,sb] 39 (0,0))) (by kernel_rfl) L.o λd=>?_;refine H_.o ?_;refine O_ 0 75 (YK (QJ ⟨z+1,1,QK⟩)) d λd=>?_;refine tlW 1 76 (XY n) d (λw j=>?_) λd=>?_
   ·have p:=QX j.1 1;unfold z_;go_simp
   refine O_ 3 78 (YK (QJ ⟨z+2,1,QK⟩)) d λd=>?_;refine tlW 4 79 (XY J) d (λw j=>?_) λd=>?_
   ·have p:=QX j.2 1;unfold z_;go_simp
   refine tlC 2 λK i=>?_;go_simp;refine (a5.o _).mono ?_;rintro e w6 ⟨rfl,a4⟩;subst w6;dsimp only;refine tlB i L.o λd=>?_;clear i K;refine tlC 5 λK i=>?_;go_simp;refine (a6.o _).mono ?_;rintro e w6 ⟨rfl,a4⟩;subst w6;dsimp only;refine tlB i L.o λd=>?_;clear i K;refine tlC 6 λK i=>?_;go_simp;refine (ac.o _).mono ?_;rintro e w6 ⟨rfl,a4⟩;subst w6;dsimp only;refine tlB i L.o λd=>?_;clear i K;refine O_ 7 6 (QY QU v) d λd=>?_;refine⟨VX (by kernel_rfl) ?_ _⟩;clear d;go_wp2_with fail;go_ret;exact HE.o _ A.o.drew
  ·skip
   rcases s with s | s | s | s<;>(
   rw[s]at hb;have y:=q_ (show y_ a b=ar_ (ec_ a.text.data.toList b.text.data.toList) (ec_ a.extra.data.toList b.extra.data.toList) from np_ (by rw[s,hb]) (by rw[s];decide) (by omega));have ad:=q_ (λW:QV=>kn_ a.text b.text W);have ae:=q_ (λW:QV=>kn_ a.extra b.extra W);obtain⟨u1,F⟩:=a_ (ec_ a.text.data.toList b.text.data.toList);obtain⟨u2,G⟩:=a_ (ec_ a.extra.data.toList b.extra.data.toList);rw[F.o,G.o]at y;rw[F.o]at ad;rw[G.o]at ae;clear F G;rw[Z.o]at y;clear Z;have f:=q_ (show l.heap[z+1]?=QJ (XX (c_ a sa) 39 (0,0))/\l.heap[z+2]?=QJ (XX (c_ b sb) 39 (0,0)) from by rw[B.o,C.o];exact⟨t.o.2.1,t.o.2.2⟩);clear t Q1 Q2 B C;have g:=q_ (λW:QV=>i3_ a sa W);unfold j7_ at g
   cases a with
   | mk k1 n x k r l1=>
   cases b with
   | mk k2 J X M O l2=>
   unfold c_ at f g ;simp only[g_.kind,g_.truth,g_.num,g_.text,g_.extra]at f g ad ae s hb;subst s;subst hb;have g:=q_ (λW:QV=>(show Calls QW 128 #[.agg #[QY QU _,XY n,QY QU x,QZ k,QZ r,sa]] W (λe w'=>e = YQ (UX _ _)/\XW W.heap.size W w') from g.o W));try simp only[g_.num,g_.text,g_.extra]at g
   have aw:=pl_ (QZ k);have ay:=oh_ (QZ k);have az:=rn_ (QZ k);have b0:=pk_ (QZ k);have b4:=mx_ (QZ k);have b5:=mw_ (.agg #[QZ k,QZ r]);have b6:=lb_ (.agg #[QZ k,QZ r]);have b7:=of_ (.agg #[QZ k,QZ r]);have b8:=mv_ (.agg #[QZ k,QZ r]);have b9:=kf_ (.agg #[QZ k,QZ r]);have p0:l.cell? ⟨z+1,0,QK⟩=QJ (QY QU _):=QX f.o.1 0;have p1:l.cell? ⟨z+1,1,QK⟩=QJ (XY n):=QX f.o.1 1;have p2:l.cell? ⟨z+1,2,QK⟩=QJ (QY QU x):=QX f.o.1 2;have p3:l.cell? ⟨z+1,3,QK⟩=QJ (QZ k):=QX f.o.1 3;have p4:l.cell? ⟨z+1,4,QK⟩=QJ (QZ r):=QX f.o.1 4;have p5:l.cell? ⟨z+1,5,QK⟩=QJ sa:=QX f.o.1 5;go_wp2_with fail;refine (g.o _).mono ?_;rintro e w5 ⟨rfl,q⟩;clear g p0 p1 p2 p3 p4 p5;have A:=q_ (I.o.trans (q.mono I.o.size));have m:=q_ (show w5.heap[z+1]?=QJ (XX #[QY QU _,XY n,QY QU x,QZ k,QZ r,sa] 39 (0,0))/\w5.heap[z+2]?=QJ (XX #[QY QU _,XY J,QY QU X,QZ M,QZ O,sb] 39 (0,0)) from ⟨(q.block _ (b_ f.o.1)).trans f.o.1,(q.block _ (b_ f.o.2)).trans f.o.2⟩);clear q f I E HB;go_upto_region 22 with fail;have L:zh_ z _ _ w5.drew:=m.o;refine UZ (S:=zh_ z _ _) (by kernel_rfl) L λd=>?_;refine H_.o ?_;have L:=q_ L;refine O_ 0 82 (YK (QJ ⟨z+1,3,QK⟩)) d λd=>?_;refine tlW 1 83 (QZ k) d (λw j=>?_) λd=>?_
   ·have p:=QX j.1 3;unfold z_;go_simp
   refine O_ 2 84 (YK (QJ ⟨z+2,3,QK⟩)) d λd=>?_;refine tlW 3 85 (QZ M) d (λw j=>?_) λd=>?_
   ·have p:=QX j.2 3;unfold z_;go_simp
   refine O_ 5 87 (YK (QJ ⟨z+1,4,QK⟩)) d λd=>?_;refine tlW 6 88 (QZ r) d (λw j=>?_) λd=>?_
   ·have p:=QX j.1 4;unfold z_;go_simp
   refine O_ 7 89 (YK (QJ ⟨z+2,4,QK⟩)) d λd=>?_;refine tlW 8 90 (QZ O) d (λw j=>?_) λd=>?_
   ·have p:=QX j.2 4;unfold z_;go_simp
   refine tlC 4 (λK i=>?_);go_simp;refine (ad.o _).mono ?_;rintro e w6 ⟨rfl,a4⟩;subst w6;dsimp only;refine tlB i L.o (λd=>?_);clear i K;refine tlC 9 (λK i=>?_);go_simp;refine (ae.o _).mono ?_;rintro e w6 ⟨rfl,a4⟩;subst w6;dsimp only;refine tlB i L.o (λd=>?_);clear i K;have ah:=q_ (show zh_ z _ _ (w5.drew.alloc (XX #[QY QU u1,QY QU u2] 3)) from And.intro ((Below.heap_alloc _ _ _ (b_ m.o.1)).trans m.o.1) ((Below.heap_alloc _ _ _ (b_ m.o.2)).trans m.o.2));have a7:=q_ ((A.o.drew).alloc (ZX A.o.size (XK _)) (XX #[QY QU u1,QY QU u2] 3));have ao:=q_ (Lw_ u1 u2 w5.heap.size 2 (w5.drew.alloc (XX #[QY QU u1,QY QU u2] 3)) (QX (XU w5.drew _) 0) (QX (XU w5.drew _) 1));rw[<-y.o]at ao;refine tlC 10 (λK i=>?_);go_simp;refine tlB i ah.o (λd=>?_);clear i K;refine tlC 11 (λK i=>?_);go_simp;refine (ao.o).mono ?_;rintro e w6 ⟨rfl,a4⟩;subst w6;dsimp only;refine tlB i ah.o (λd=>?_);clear i K;refine O_ 12 6 (QY QU v) d (λd=>?_);refine⟨VX (by kernel_rfl) ?_ _⟩;clear d;go_wp2_with fail;go_ret;exact HE.o _ a7.o)
 ·have ev:cc=v:=by rw[<-Y.o,<-Z.o,s6_ V]
  have e1:(cc != 0)=true:=bne_iff_ne.2 (by rw[<-Y.o];exact λh=>V ((et_.eqv _ _).1 h));have av:=q_ ev;clear V Y aa HA fa fb a0 a1 ev;go_wp2_with fail;go_ret;have:=HE.o _ I.o;rwa [<-av.o]at this
end
section
open Go
structure mq_ (w:Way) (T:List e_) (ix:List Nat):Prop where
 perm:ix.Perm (List.range T.length)
 rise:ix.Pairwise λa b=>∀s t,T[a]?=QJ s->T[b]?=QJ t->s_ w s t<0
theorem mq_.lt {w:Way} {T:List e_} {a:List Nat} (h:mq_ w T a) {n:Nat} (b:n∈a):n<T.length:=List.mem_range.1 (h.perm.mem_iff.1 b)
theorem mq_.len {w:Way} {T:List e_} {a:List Nat} (h:mq_ w T a):a.length=T.length:=by rw[h.perm.length_eq,List.length_range]
theorem mq_.nodup {w:Way} {T:List e_} {a:List Nat} (h:mq_ w T a):a.Nodup:=h.perm.nodup_iff.2 List.nodup_range
theorem Os_ {w:Way} (o:w.Ok) {T:List e_} (k:∀t,t∈T->cj_ t) (m:T.Nodup) {f:List Nat} (l:f.Perm (List.range T.length)) (e:f.Pairwise λa b=>∀s t,T[a]?=QJ s->T[b]?=QJ t->¬s_ w t s<0):mq_ w T f:=by
 refine⟨l,?_⟩;have n:f.Nodup:=l.nodup_iff.2 List.nodup_range;refine (e.and n).imp fun {a b} h s t e ht=>?_;have h1:=h.1 s t e ht;have h2:=(az_ w).anti s t;rcases (az_ w).val s t with g | g | g
 ·omega
 ·have:=fp_ o (k s (YZ e)) (k t (YZ ht)) g;subst this;obtain⟨la,i⟩:=List.getElem?_eq_some_iff.1 e;obtain⟨lb,j⟩:=List.getElem?_eq_some_iff.1 ht;exfalso;rcases Nat.lt_or_gt_of_ne h.2 with d | d
  ·exact List.pairwise_iff_getElem.1 m a b la lb d (i.trans j.symm)
  ·exact List.pairwise_iff_getElem.1 m b a lb la d (j.trans i.symm)
 ·omega
open Classical in
noncomputable def Bv_ (p t:e_):Bool:=
 decide (∀i,i<3->(((p.get i).kind≠0->t.get i=p.get i)/\((p.get i).kind=0->∀k,k<i->(p.get k).kind=0->(p.get i).text≠⟨#[]⟩->(p.get k).text=(p.get i).text->t.get i=t.get k)))
open Classical in
theorem Dq_ {p t:e_}:Bv_ p t=true↔∀i,i<3->(((p.get i).kind≠0->t.get i=p.get i)/\((p.get i).kind=0->∀k,k<i->(p.get k).kind=0->(p.get i).text≠⟨#[]⟩->(p.get k).text=(p.get i).text->t.get i=t.get k)):=by unfold Bv_;exact⟨λh=>@of_decide_eq_true _ _ h,λh=>@decide_eq_true _ _ h⟩
theorem Dr_ {p t:e_} (h:Bv_ p t=true) (i:Nat) (hi:i<3) (a:(p.get i).kind≠0):y_ (t.get i) (p.get i)=0:=by have:=(Dq_.1 h i hi).1 a;rw[this];exact fl_ _
structure k7_ (w:Way) (T:List e_) (p:e_) (d:Nat) (l:List Nat):Prop where
 lt:∀n,n∈l->n<T.length
 rise:l.Pairwise λa b=>∀s t,T[a]?=QJ s->T[b]?=QJ t->s_ w s t<0
 nodup:l.Nodup
 same:∀n t,n∈l->T[n]?=QJ t->∀e,e<d->y_ (t.get (w.get e)) (p.get (w.get e))=0
 bound:∀e,e<d->(p.get (w.get e)).kind≠0
 all:∀n t,T[n]?=QJ t->Bv_ p t=true->n∈l
theorem k7_.start {w:Way} {T:List e_} {d:List Nat} (h:mq_ w T d) (p:e_):k7_ w T p 0 d:=
 ⟨λ_ b=>h.lt b,h.rise,h.nodup,λ_ _ _ _ e a=>absurd a (by omega),λe a=>absurd a (by omega),λn t b _=>h.perm.mem_iff.2 (List.mem_range.2 (List.getElem?_eq_some_iff.1 b).1)⟩
theorem Way.Ok.lt {w:Way} (h:w.Ok) (e:Nat):w.get e<3:=by
 unfold Way.Ok at h;unfold Way.get;repeat' split
 all_goals omega
theorem k7_.mono {w:Way} {T:List e_} {p:e_} {d:Nat} {l:List Nat} (h:k7_ w T p d l) (G:d<3) (c:Nat->Int) (D:∀n t,T[n]?=QJ t->c n=y_ (t.get (w.get d)) (p.get (w.get d))):l.Pairwise λa b=>c a<=c b:=by
 have v:=h.rise.and (List.pairwise_iff_forall_sublist.2 fun {a b} m=>(⟨m.subset (by simp),m.subset (by simp)⟩:a∈l/\b∈l));refine v.imp fun {a b} m=>?_;obtain⟨h1,C,hb⟩:=m;have la:=h.lt a C;have lb:=h.lt b hb;have r:=XQ la;have s:=XQ lb;have h1:=h1 _ _ r s;rw[D a _ r,D b _ s]
 have same:∀e,e<d->y_ (T[a].get (w.get e)) (T[b].get (w.get e))=0:=λe E=>by
  have q:=h.same a _ C r e E;have I:=h.same b _ hb s e E;rw[dp_.zero _ _ _ q];have:=fk_ (T[b].get (w.get e)) (p.get (w.get e));omega
 have g:y_ (T[a].get (w.get d)) (T[b].get (w.get d))<=0:=by
  unfold s_ at h1;have u:w.get 0=w.i:=rfl;have B:w.get 1=w.j:=rfl;have F:w.get 2=w.k:=rfl;rcases (show d=0\/d=1\/d=2 by omega) with rfl | rfl | rfl
  ·rw[u];by_cases h0:y_ (T[a].get w.i) (T[b].get w.i)=0
   ·omega
   ·rw[cx_ h0]at h1;omega
  ·have o:=same 0 (by omega);rw[u]at o;rw[o,Y_]at h1;rw[B];by_cases h0:y_ (T[a].get w.j) (T[b].get w.j)=0
   ·omega
   ·rw[cx_ h0]at h1;omega
  ·have o:=same 0 (by omega);have q:=same 1 (by omega);rw[u]at o;rw[B]at q;rw[o,q,Y_,Y_]at h1;rw[F];omega
 generalize T[a].get (w.get d)=x at g ⊢;generalize T[b].get (w.get d)=y at g ⊢;generalize p.get (w.get d)=z;rcases l5_ x z with A | A | A
 ·rcases l5_ y z with f | f | f<;>omega
 ·rcases l5_ y z with f | f | f
  ·have:=dp_.trans_lt g (show y_ y z<0 by omega);omega
  ·omega
  ·omega
 ·rcases l5_ y z with f | f | f
  ·have:=dp_.trans_lt g (show y_ y z<0 by omega);omega
  ·have:=dp_.trans x y z g (by omega);omega
  ·omega
theorem k7_.next {w:Way} {T:List e_} {p:e_} {d:Nat} {l:List Nat} (h:k7_ w T p d l) (k:w.Ok) (i:(p.get (w.get d)).kind≠0) (c:Nat->Int) (f:∀n t,T[n]?=QJ t->c n=y_ (t.get (w.get d)) (p.get (w.get d))) :
    k7_ w T p (d+1) (l.filter λn=>decide (c n=0)):=by
 have a:(l.filter λn=>decide (c n=0)).Sublist l:=List.filter_sublist;refine⟨λn b=>h.lt n (a.subset b),h.rise.sublist a,h.nodup.sublist a,λn t b ht e j=>?_,λe j=>?_,λn t ht g=>?_⟩
 ·by_cases e0:e=d
  ·subst e0;rw[<-f n t ht];exact of_decide_eq_true (List.mem_filter.1 b).2
  ·exact h.same n t (a.subset b) ht e (by omega)
 ·by_cases e0:e=d
  ·subst e0;exact i
  ·exact h.bound e (by omega)
 ·refine List.mem_filter.2 ⟨h.all n t ht g,dT_ ?_⟩;rw[f n t ht];exact Dr_ g _ (k.lt d) i
theorem J0_ {w:Way} {a b:e_}:(∀e,e<3->y_ (a.get (w.get e)) (b.get (w.get e))=0)↔s_ w a b=0:=by
 rw[pi_];constructor
 ·intro h;exact⟨h 0 (by omega),h 1 (by omega),h 2 (by omega)⟩
 ·rintro⟨h1,h2,d⟩ e f;rcases (show e=0\/e=1\/e=2 by omega) with rfl | rfl | rfl
  ·exact h1
  ·exact h2
  ·exact d
theorem kd_ {w:Way} {a b:e_} {d:Nat} (o:d<3) (h1:s_ w a b<=0) (f:∀e,e<d->y_ (a.get (w.get e)) (b.get (w.get e))=0):y_ (a.get (w.get d)) (b.get (w.get d))<=0:=by
 unfold s_ at h1;have h:w.get 0=w.i:=rfl;have l:w.get 1=w.j:=rfl;have n:w.get 2=w.k:=rfl;rcases (show d=0\/d=1\/d=2 by omega) with rfl | rfl | rfl
 ·rw[h];by_cases h0:y_ (a.get w.i) (b.get w.i)=0
  ·omega
  ·rw[cx_ h0]at h1;omega
 ·have g:=f 0 (by omega);rw[h]at g;rw[g,Y_]at h1;rw[l];by_cases h0:y_ (a.get w.j) (b.get w.j)=0
  ·omega
  ·rw[cx_ h0]at h1;omega
 ·have g:=f 0 (by omega);have m:=f 1 (by omega);rw[h]at g;rw[l]at m;rw[g,m,Y_,Y_]at h1;rw[n];omega
def bk_ (w:Way) (pre:List g_) (t:e_):Prop:=∀e v,pre[e]?=QJ v->t.get (w.get e)=v
theorem bk_.nil (w:Way) (t:e_):bk_ w [] t:=λe v h=>by simp at h
theorem bk_.snoc {w:Way} {pre:List g_} {v:g_} {t:e_}:bk_ w (pre++[v]) t↔bk_ w pre t/\t.get (w.get pre.length)=v:=by
 constructor
 ·intro h;refine⟨λe u a=>h e u ?_,h _ _ (by simp)⟩;rw[List.getElem?_append_left (List.getElem?_eq_some_iff.1 a).1];exact a
 ·rintro⟨h1,h2⟩ e u a;rcases VZ e pre.length with b | b
  ·rw[List.getElem?_append_left b]at a;exact h1 e u a
  ·have d:=(List.getElem?_eq_some_iff.1 a).1;simp only[ZZ,List.length_cons,List.length_nil]at d;have:e=pre.length:=by omega
   subst this;simp at a;rw[h2,a]
open Classical in
noncomputable def lv_ (T:List e_) (w:Way) (pre:List g_):List g_:=an_ y_ ((T.filter λt=>decide (bk_ w pre t)).map λt=>t.get (w.get pre.length))
section
variable {T K:List e_} {w:Way}
theorem xl_ (g:∀t,t∈T->cj_ t) (pre:List g_):j9_ y_ (lv_ T w pre)/\∀x,x∈lv_ T w pre↔∃t,t∈T/\bk_ w pre t/\t.get (w.get pre.length)=x:=by
 unfold lv_
 have f:∀x,x∈((T.filter λt=>@decide (bk_ w pre t) (Classical.propDecidable _)).map λt=>t.get (w.get pre.length))↔∃t,t∈T/\bk_ w pre t/\t.get (w.get pre.length)=x:=λx=>by
  rw[List.mem_map];constructor
  ·rintro⟨t,ht,e⟩;obtain⟨h1,h2⟩:=List.mem_filter.1 ht;exact⟨t,h1,@of_decide_eq_true _ (Classical.propDecidable _) h2,e⟩
  ·rintro⟨t,h1,h2,e⟩;exact⟨t,List.mem_filter.2 ⟨h1,@decide_eq_true _ (Classical.propDecidable _) h2⟩,e⟩
 have d:∀x,x∈((T.filter λt=>@decide (bk_ w pre t) (Classical.propDecidable _)).map λt=>t.get (w.get pre.length))->af_ x:=λx i=>by
  obtain⟨t,h1,_,e⟩:=(f x).1 i;rw[<-e];exact (g t h1).get _
 have:=ct_ dp_ (l:=(T.filter λt=>@decide (bk_ w pre t) (Classical.propDecidable _)).map λt=>t.get (w.get pre.length)) λa h b hb h0=>d9_ (d a h) (d b hb) h0;exact⟨this.1,λx=>(this.2 x).trans (f x)⟩
structure h6_ (T K:List e_) (w:Way):Prop where
 ok:w.Ok
 mem:∀t,t∈K↔t∈T
 scal:∀t,t∈T->cj_ t
 rise:j9_ (s_ w) K
theorem h6_.le (h:h6_ T K w) {n m:Nat} {s t:e_} (b:K[n]?=QJ s) (ht:K[m]?=QJ t) (g:n<=m):s_ w s t<=0:=by
 obtain⟨f,en⟩:=List.getElem?_eq_some_iff.1 b;obtain⟨d,a⟩:=List.getElem?_eq_some_iff.1 ht;by_cases e:n=m
 ·subst e;rw[<-en,<-a];have:=(az_ w).refl K[n];omega
 ·have:=List.pairwise_iff_getElem.1 h.rise n m f d (by omega);rw[en,a]at this;omega
theorem h6_.scal' (h:h6_ T K w) {n:Nat} {s:e_} (a:K[n]?=QJ s):cj_ s:=h.scal s ((h.mem s).1 (YZ a))
theorem h6_.mono (h:h6_ T K w) {pre:List g_} (g:pre.length<3) {n m:Nat} {s t:e_} (i:K[n]?=QJ s) (ht:K[m]?=QJ t) (b:n<=m) (d:bk_ w pre s) (f:bk_ w pre t):y_ (s.get (w.get pre.length)) (t.get (w.get pre.length))<=0:=by refine kd_ g (h.le i ht b) λe a=>?_;rw[d e _ (XQ a),f e _ (XQ a)];exact fl_ _
structure Lev (K:List e_) (w:Way) (pre:List g_) (v:g_) (a b s:Nat):Prop where
 d3:pre.length<3
 sa:s<=a
 ab:a<b
 bl:b<=K.length
 span:∀n t,K[n]?=QJ t->((s<=n/\n<b)↔bk_ w pre t)
 here:∀t,K[a]?=QJ t->t.get (w.get pre.length)=v
 first:∀n t,s<=n->n<a->K[n]?=QJ t->y_ (t.get (w.get pre.length)) v<0
structure t7_ (K:List e_) (f:e_->Prop) (a b q:Nat):Prop where
 aq:a<=q
 qb:q<=b
 no:∀n t,a<=n->n<q->K[n]?=QJ t->¬f t
 yes:∀t,q<b->K[q]?=QJ t->f t
theorem Lev.at_ {pre:List g_} {v:g_} {a b s:Nat} (h:Lev K w pre v a b s) {n:Nat} (d:n<b):∃t,K[n]?=QJ t:=⟨_,XQ (XZ d h.bl)⟩
theorem Lev.val (d:h6_ T K w) {pre:List g_} {v:g_} {a b s:Nat} (h:Lev K w pre v a b s):af_ v:=by obtain⟨t,ht⟩:=h.at_ h.ab;rw[<-h.here t ht];exact (d.scal' ht).get _
theorem Lev.to (g:h6_ T K w) {pre:List g_} {v:g_} {a b s q:Nat} (h:Lev K w pre v a b s) (k:g_->Bool)
    (r:t7_ K (λt=>k (t.get (w.get pre.length))=true) a b q) (f:g_->Bool) (M:∀x,x∈lv_ T w pre->f x=(decide (0<=y_ x v)&&k x)) :
    (q<b->∃x,(lv_ T w pre).find? f=QJ x/\(∀t,K[q]?=QJ t->t.get (w.get pre.length)=x)/\Lev K w pre x q b s)/\(q=b->(lv_ T w pre).find? f=QK):=by
 obtain⟨R,E⟩:=xl_ (w:=w) g.scal pre;have W:=h.val g
 have i:∀n t,s<=n->n<q->K[n]?=QJ t->f (t.get (w.get pre.length))=false:=λn t h1 h2 ht=>by
  have hb:=(h.span n t ht).1 ⟨h1,by have:=r.qb;omega⟩;rw[M _ ((E _).2 ⟨t,(g.mem t).1 (YZ ht),hb,rfl⟩)];by_cases O:n<a
  ·have:=h.first n t h1 O ht;rw[dF_ (by omega)];rfl
  ·have:=r.no n t (by omega) h2 ht
   cases hp:k (t.get (w.get pre.length)) with
   | true=>exact absurd hp this
   | false=>rw[Bool.and_false]
 constructor
 ·intro j;obtain⟨t,ht⟩:=h.at_ j;have l:=(h.span q t ht).1 ⟨by have:=h.sa;have:=r.aq;omega,j⟩;have A:=(E _).2 ⟨t,(g.mem t).1 (YZ ht),l,rfl⟩;obtain⟨S,B⟩:=h.at_ h.ab;have J:=(h.span a S B).1 ⟨h.sa,h.ab⟩;have N:0<=y_ (t.get (w.get pre.length)) v:=by have:=g.mono h.d3 B ht r.aq J l;rw[h.here S B]at this;have:=fk_ v (t.get (w.get pre.length));omega
  have F:f (t.get (w.get pre.length))=true:=by rw[M _ A,dT_ N,r.yes t j ht];rfl
  have I:∀n u,s<=n->n<q->K[n]?=QJ u->y_ (u.get (w.get pre.length)) (t.get (w.get pre.length))<0:=λn u h1 h2 d=>by
   have L:=(h.span n u d).1 ⟨h1,by omega⟩;have U:=g.mono h.d3 d ht (by omega) L l;rcases Int.lt_or_eq_of_le U with G | G
   ·exact G
   ·have e:=d9_ ((g.scal' d).get _) ((g.scal' ht).get _) G;have:=i n u h1 h2 d;rw[e,F]at this
    cases this
  refine⟨t.get (w.get pre.length),?_,λu d=>?_,⟨h.d3,by have:=h.sa;have:=r.aq;omega,j,h.bl,h.span,λu d=>?_,I⟩⟩
  ·rw[List.find?_eq_some_iff_append];refine⟨F,?_⟩;obtain⟨la,lb,e⟩:=List.append_of_mem A;refine⟨la,lb,e,λy D=>?_⟩;rw[e]at R;have V:=(List.pairwise_append.1 R).2.2 y D _ VJ;obtain⟨u,C,m,o⟩:=(E y).1 (by rw[e];exact List.mem_append_left _ D);obtain⟨n,p⟩:=List.getElem?_of_mem ((g.mem u).2 C);have z:=(h.span n u p).2 m
   have P:n<q:=by
    rcases VZ n q with h1 | h1
    ·exact h1
    ·have h2:=g.mono h.d3 ht p h1 l m;rw[o]at h2;have:=fk_ y (t.get (w.get pre.length));omega
   have:=i n u z.1 P p;rw[o]at this;rw[this];rfl
  ·rw[ht]at d;injection d with d;rw[d]
  ·rw[ht]at d;injection d with d;rw[d]
 ·intro j;rw[List.find?_eq_none];intro y D;obtain⟨u,C,m,o⟩:=(E y).1 D;obtain⟨n,p⟩:=List.getElem?_of_mem ((g.mem u).2 C);have z:=(h.span n u p).2 m;have:=i n u z.1 (by omega) p;rw[o]at this;rw[this];exact Bool.false_ne_true
theorem Lev.down (i:h6_ T K w) {pre:List g_} {v:g_} {a b s q:Nat} (h:Lev K w pre v a b s) (P:pre.length<2) (k:t7_ K (λt=>0<y_ (t.get (w.get pre.length)) v) a b q) :
    ∃x r,lv_ T w (pre++[v])=x::r/\Lev K w (pre++[v]) x a q a:=by
 obtain⟨J,I⟩:=xl_ (w:=w) i.scal (pre++[v]);obtain⟨t,ht⟩:=h.at_ h.ab;have m:=(h.span a t ht).1 ⟨h.sa,h.ab⟩;have p:=bk_.snoc.2 ⟨m,h.here t ht⟩;have E:=h.val i;have N:(pre++[v]).length=pre.length+1:=by simp
 have C:a<q:=by
  rcases VZ a q with h1 | h1
  ·exact h1
  ·have e:q=a:=by have:=k.aq;omega
   have h2:=k.yes t (by rw[e];exact h.ab) (by rw[e];exact ht);rw[h.here t ht,fl_]at h2;omega
 have j:∀n u,K[n]?=QJ u->((a<=n/\n<q)↔bk_ w (pre++[v]) u):=λn u d=>by
  rw[bk_.snoc];constructor
  ·rintro⟨h1,h2⟩;have o:=(h.span n u d).1 ⟨by have:=h.sa;omega,by have:=k.qb;omega⟩;refine⟨o,?_⟩;have f:=i.mono h.d3 ht d h1 m o;rw[h.here t ht]at f;have L:=k.no n u h1 h2 d;have:=fk_ v (u.get (w.get pre.length));exact (d9_ E ((i.scal' d).get _) (by omega)).symm
  ·rintro⟨h1,h2⟩;have l:=(h.span n u d).2 h1;constructor
   ·rcases VZ n a with f | f
    ·have:=h.first n u l.1 f d;rw[h2,fl_]at this;omega
    ·exact f
   ·rcases VZ n q with f | f
    ·exact f
    ·obtain⟨y,B⟩:=h.at_ (show q<b by omega);have L:=k.yes y (by omega) B;have D:=(h.span q y B).1 ⟨by have:=h.sa;omega,by omega⟩;have M:=i.mono h.d3 B d f D h1;rw[h2]at M;omega
 have g:=(I (t.get (w.get (pre++[v]).length))).2 ⟨t,(i.mem t).1 (YZ ht),p,rfl⟩
 cases hk:lv_ T w (pre++[v]) with
 | nil=>rw[hk]at g;cases g
 | cons x r=>
  rw[hk]at g J
  have O:x=t.get (w.get (pre++[v]).length):=by
   rcases List.mem_cons.1 g with e | e
   ·exact e.symm
   ·have h1:=(List.pairwise_cons.1 J).1 _ e;obtain⟨u,F,A,G⟩:=(I x).1 (by rw[hk];exact VJ);obtain⟨n,z⟩:=List.getElem?_of_mem ((i.mem u).2 F);have l:=(j n u z).2 A;have h2:=i.mono (pre:=pre++[v]) (by omega) ht z l.1 p A;rw[G]at h2;have:=fk_ x (t.get (w.get (pre++[v]).length));omega
  refine⟨x,r,rfl,by omega,XK _,C,ZX k.qb h.bl,j,λu d=>?_,λn u h1 h2=>absurd h1 (by omega)⟩;rw[ht]at d;injection d with d;rw[<-d,O]
end
structure f5_ where
 way:List g_
 fin:Bool
def upA (c:f5_):f5_×Bool:=if c.way=[] then (c,false) else (⟨c.way.dropLast,false⟩,true)
def toF (a:Bool) (b v x:g_):Bool:=decide (0<=y_ x b)&&(if a=true then decide (0<y_ x v) else decide (0<=y_ x v))
noncomputable def toA (T:List e_) (w:Way) (a:Bool) (v:g_) (c:f5_):f5_×Bool:=
 match c.way.getLast? with
 | none=>(c,false)
 | some b=>if c.fin=true then (c,false) else match (lv_ T w c.way.dropLast).find? (toF a b v) with
  | some x=>(⟨c.way.dropLast++[x],false⟩,true)
  | none=>(⟨c.way,true⟩,false)
def Ot_ (c:f5_):Option g_:=if c.fin=true then QK else c.way.getLast?
def upd (f:Nat->Nat) (e x:Nat):Nat->Nat:=λi=>if i=e then x else f i
theorem y3_ (f:Nat->Nat) (e x:Nat):upd f e x e=x:=iP_ rfl
theorem Fg_ (f:Nat->Nat) {e x i:Nat} (h:i≠e):upd f e x i=f i:=iN_ h
structure ie_ (K:List e_) (w:Way) (c:f5_) (at_ en:Nat->Nat):Prop where
 d3:c.way.length<=3
 fin0:c.fin=true->0<c.way.length
 lev:∀e v,c.way[e]?=QJ v->(e+1<c.way.length\/c.fin=false)->∃s,Lev K w (c.way.take e) v (at_ (e+1)) (en (e+1)) s
 end_:c.fin=true->at_ c.way.length=en c.way.length/\en c.way.length<=K.length
section
variable {T K:List e_} {w:Way} {c:f5_} {at_ en:Nat->Nat}
theorem ie_.start (K:List e_) (w:Way) (at_ en:Nat->Nat):ie_ K w ⟨[],false⟩ at_ en:=⟨Nat.zero_le _,λh=>(by cases h),λe v h=>(by simp at h),λh=>(by cases h)⟩
theorem ie_.last (h:ie_ K w c at_ en) (h0:0<c.way.length) (f:c.fin=false):∃v s,c.way.getLast?=QJ v/\c.way=c.way.dropLast++[v]/\c.way.dropLast.length+1=c.way.length/\Lev K w c.way.dropLast v (at_ c.way.length) (en c.way.length) s:=by
 have a:c.way≠[]:=List.length_pos_iff.1 h0;have b:c.way.getLast?=QJ (c.way.getLast a):=List.getLast?_eq_some_getLast a;have e:c.way[c.way.length-1]?=QJ (c.way.getLast a):=by rw[<-b,List.getLast?_eq_getElem?]
 obtain⟨s,d⟩:=h.lev _ _ e (.inr f);rw[<-List.dropLast_eq_take,Nat.sub_add_cancel h0]at d;exact⟨_,s,b,(List.dropLast_concat_getLast a).symm,by rw[List.length_dropLast];omega,d⟩
theorem ie_.stands (h:ie_ K w c at_ en) (h0:0<c.way.length):at_ c.way.length<en c.way.length↔c.fin=false:=by
 cases hf:c.fin with
 | true=>
  have:=(h.end_ hf).1;constructor
  ·intro h;omega
  ·intro h;cases h
 | false=>
  obtain⟨v,s,_,_,_,a⟩:=h.last h0 hf;exact⟨λ_=>rfl,λ_=>a.ab⟩
theorem ie_.key (h:ie_ K w c at_ en) (h0:0<c.way.length) (b:c.fin=false):∃v t,Ot_ c=QJ v/\K[at_ c.way.length]?=QJ t/\t.get (w.get (c.way.length-1))=v:=by
 obtain⟨v,s,d,e,f,a⟩:=h.last h0 b;obtain⟨t,ht⟩:=a.at_ a.ab;refine⟨v,t,?_,ht,?_⟩
 ·unfold Ot_;rw[b,iN_ Bool.false_ne_true,d]
 ·have:=a.here t ht;rwa [show c.way.dropLast.length=c.way.length-1 by omega]at this
theorem ie_.up (h:ie_ K w c at_ en) (h0:0<c.way.length):upA c=(⟨c.way.dropLast,false⟩,true)/\ie_ K w ⟨c.way.dropLast,false⟩ at_ en:=by
 have d:c.way≠[]:=List.length_pos_iff.1 h0;constructor
 ·unfold upA;rw[iN_ d]
 ·refine⟨by have:=h.d3;rw[List.length_dropLast];omega,λh=>(by cases h),λe v a _=>?_,λh=>(by cases h)⟩;have f:=(List.getElem?_eq_some_iff.1 a).1;rw[List.length_dropLast]at f;have b:c.way[e]?=some v:=by rw[List.dropLast_eq_take,List.getElem?_take_of_lt (by omega)]at a;exact a
  obtain⟨s,g⟩:=h.lev e v b (.inl (by omega));refine⟨s,?_⟩;show Lev K w (c.way.dropLast.take e) v _ _ s;rw[List.dropLast_eq_take,List.take_take,Nat.min_eq_left (by omega)];exact g
theorem ie_.to (F:h6_ T K w) (h:ie_ K w c at_ en) (h0:0<c.way.length) (j:c.fin=false) (b:Bool) (v:g_) {q:Nat}
    (l:t7_ K (λt=>(if b=true then decide (0<y_ (t.get (w.get (c.way.length-1))) v) else decide (0<=y_ (t.get (w.get (c.way.length-1))) v))=true) (at_ c.way.length) (en c.way.length) q) :
    ∃a,toA T w b v c=(a,!a.fin)/\a.way.length=c.way.length/\ie_ K w a (upd at_ c.way.length q) en:=by
 obtain⟨n,s,o,p,E,z⟩:=h.last h0 j;rw[show c.way.length-1=c.way.dropLast.length by omega]at l;obtain⟨m,A⟩:=z.to F (λx=>if b=true then decide (0<y_ x v) else decide (0<=y_ x v)) l (toF b n v) λx _=>rfl
 have i:∀a:f5_,a.way.take c.way.dropLast.length=c.way.dropLast->a.way.length=c.way.length->∀e u,a.way[e]?=QJ u->e<c.way.dropLast.length->∃s,Lev K w (a.way.take e) u (upd at_ c.way.length q (e+1)) (en (e+1)) s:=by
  intro a ht f e u d g
  have y:c.way[e]?=QJ u:=by
   have h1:(a.way.take c.way.dropLast.length)[e]?=QJ u:=by rw[List.getElem?_take_of_lt g];exact d
   rw[ht]at h1;rw[p,List.getElem?_append_left g];exact h1
  obtain⟨s,G⟩:=h.lev e u y (.inr j);refine⟨s,?_⟩;rw[Fg_ _ (by omega)]
  have h2:a.way.take e=c.way.take e:=by
   have r:(a.way.take c.way.dropLast.length).take e=a.way.take e:=by rw[List.take_take,Nat.min_eq_left (by omega)]
   rw[<-r,ht,List.dropLast_eq_take,List.take_take,Nat.min_eq_left (by omega)]
  rw[h2];exact G
 rcases VZ q (en c.way.length) with g | I
 ·obtain⟨x,C,J,D⟩:=m g;have f:(c.way.dropLast++[x]).length=c.way.length:=by simp only[ZZ,List.length_cons,List.length_nil];omega
  refine⟨⟨c.way.dropLast++[x],false⟩,?_,f,?_⟩
  ·unfold toA;rw[o];simp only;rw[j,iN_ Bool.false_ne_true,C];rfl
  ·refine⟨by show (c.way.dropLast++[x]).length<=3;rw[f];exact h.d3,λh=>(by cases h),λe u d _=>?_,λh=>(by cases h)⟩;rcases VZ e c.way.dropLast.length with h1 | h1
   ·exact i ⟨c.way.dropLast++[x],false⟩ (by show (c.way.dropLast++[x]).take _=_;rw[List.take_left'];rfl) f e u d h1
   ·have h2:=(List.getElem?_eq_some_iff.1 d).1;have r:(c.way.dropLast++[x]).length=c.way.dropLast.length+1:=by simp
    have h2:e<(c.way.dropLast++[x]).length:=h2;have:e=c.way.dropLast.length:=by omega
    subst this;have d:(c.way.dropLast++[x])[c.way.dropLast.length]?=QJ u:=d;rw[List.getElem?_append_right (XK _)]at d;simp at d;subst d;refine⟨s,?_⟩;show Lev K w ((c.way.dropLast++[x]).take c.way.dropLast.length) x _ _ s;rw[List.take_left' rfl,E,y3_];exact D
 ·have k:q=en c.way.length:=by have:=l.qb;omega
  refine⟨⟨c.way,true⟩,?_,rfl,?_⟩
  ·unfold toA;rw[o];simp only;rw[j,iN_ Bool.false_ne_true,A k];rfl
  ·refine⟨h.d3,λ_=>h0,λe u d B=>?_,λ_=>⟨?_,z.bl⟩⟩
   ·rcases B with h1 | h1
    ·exact i ⟨c.way,true⟩ (by show c.way.take _=_;rw[p];simp) rfl e u d (by have:e+1<c.way.length:=h1;omega)
    ·cases h1
   ·show upd at_ c.way.length q c.way.length=_;rw[y3_,k]
end
end
section
open Go Go.RowKit
structure v1_ (v:g_):Prop where
 kind:v.kind=1\/v.kind=2\/v.kind=3\/v.kind=4\/v.kind=8\/v.kind=9\/v.kind=10
 fit:cg_ v
theorem Gr_ (a b:g_) (sa sb:XJ) (w:QV) (j:v1_ a) (l:cg_ b) (g:ad_ w) (h:ci_ w) :
    Calls QW 114 #[.agg (c_ a sa),.agg (c_ b sb)] w (b7_ a b w):=by
 have d:=q_ (λ(W:QV) (m:XW w.heap.size w W)=>xy_ a b sa sb W j.kind j.fit l (j_ g m) (K_ h m));unfold b7_ at d ⊢;obtain⟨v,k⟩:=a_ (y_ a b);rw[k.o]at d ⊢;clear k j l g h;have i:=q_ λp q:Obj=>F_ w p q
 cases a with
 | mk t r z B E x=>
 cases b with
 | mk u s A C F y=>
 unfold c_ at d ⊢;simp only[g_.kind,g_.truth,g_.num,g_.text,g_.extra]at d ⊢;go_enter func114,ntmps114
 go_wp2_with fail;refine (d.o _ (i.o _ _)).mono ?_;rintro e D ⟨rfl,f⟩;have n:=q_ ((i.o _ _).trans (f.mono (i.o _ _).size));clear f;go_wp2_with fail;go_ret;exact⟨rfl,n.o⟩
def N_ (t:e_) (a:Nat->XJ):Array XJ:=c_ t.s (a 0)++c_ t.p (a 1)++c_ t.o (a 2)
theorem gd_ (t:e_) (a:Nat->XJ):(N_ t a).size=18:=rfl
theorem u_ (t:e_) (a:Nat->XJ) (n:Nat) (d:n<3) (j:Nat) (b:j<6):(N_ t a)[n*6+j]?=(c_ (t.get n) (a n))[j]?:=by rcases (show n=0\/n=1\/n=2 by omega) with rfl | rfl | rfl<;>rcases (show j=0\/j=1\/j=2\/j=3\/j=4\/j=5 by omega) with rfl | rfl | rfl | rfl | rfl | rfl<;>kernel_rfl
structure vy_ (c:Array XJ) (t:e_) (ss:Nat->XJ):Prop where
 o :N_ t ss=c
theorem ba_ (t:e_) (a:Nat->XJ):∃c,vy_ c t a:=⟨_,⟨rfl⟩⟩
theorem vy_.size {c:Array XJ} {t:e_} {a:Nat->XJ} (h:vy_ c t a):c.size=18:=by rw[<-h.o];rfl
theorem b4_ {w:QV} {z:Nat} {c:Array XJ} {T:TypeId} {b:Nat×Nat} {t:e_} {a:Nat->XJ} (h:w.heap[z]?=QJ (XX c T b)) (e:vy_ c t a) {n:Nat} (g:n<3):w.rangeAt z (n*6) (c_ (t.get n) (a n)).toList:=λj v d=>by
 have f:j<6:=(List.getElem?_eq_some_iff.1 d).1;rw[UU w z (n*6+j) c T b h,<-e.o,u_ t a n g j f,<-Array.getElem?_toList];exact d
theorem jj_ {P:Program} {w:QV} {z o:Nat} {v:g_} {s:XJ} (b:w.rangeAt z o (c_ v s).toList) (ty:TypeId) (d:TypeDesc) (e:P.underlying ty=QJ d) (a:d.isRow=true) (hi:(P.info? ty).map (·.size)=some 6) :
    (Instr.loadAt ty (YK (QJ ⟨z,o,QK⟩))).run P w = .ok (.agg (c_ v s)) w:=by
 have:=run_loadAt_mid (P:=P) w z o ty (c_ v s).toList d b e a (by rw[Array.length_toList];exact hi);rwa [Array.toArray_toList]at this
structure AlM (w:QV) (z:Nat) (c1 c2:Array XJ) (wx:QV):Prop where
 hb:XW w.heap.size w wx
 h1:wx.heap[z]?=QJ (XX c1 99 (0,0))
 h2:wx.heap[z+1]?=QJ (XX c2 99 (0,0))
theorem AlM.on {w a w':QV} {z:Nat} {b d:Array XJ} (h:AlM w z b d a) (hb:XW a.heap.size a w'):AlM w z b d w':=
 ⟨h.hb.trans (hb.mono h.hb.size),(hb.block _ (b_ h.h1)).trans h.h1,(hb.block _ (b_ h.h2)).trans h.h2⟩
theorem AlM.drew {w d:QV} {z:Nat} {a b:Array XJ} (h:AlM w z a b d):AlM w z a b d.drew:=⟨h.hb.drew,h.h1,h.h2⟩
def alK (w:Way) (a b:e_) (k:Nat):Prop:=∀e,e<k->y_ (a.get (w.get e)) (b.get (w.get e))=0
theorem F8_ {w:Way} {a b:e_} {k:Nat} (e:k<3) (h:alK w a b k) (d:y_ (a.get (w.get k)) (b.get (w.get k))≠0):s_ w a b=y_ (a.get (w.get k)) (b.get (w.get k)):=by
 unfold s_;rcases (show k=0\/k=1\/k=2 by omega) with rfl | rfl | rfl
 ·exact cx_ d
 ·have h0:y_ (a.get w.i) (b.get w.i)=0:=h 0 (by omega);rw[h0,Y_];exact cx_ d
 ·have h0:y_ (a.get w.i) (b.get w.i)=0:=h 0 (by omega);have h1:y_ (a.get w.j) (b.get w.j)=0:=h 1 (by omega);rw[h0,h1,Y_,Y_];rfl
theorem Cs_ {w:Way} {a b:e_} (h:alK w a b 3):s_ w a b=0:=J0_.1 λe d=>h e d
theorem ph_ {w:Way} {a b:e_} {k:Nat} (h:alK w a b k) (h0:y_ (a.get (w.get k)) (b.get (w.get k))=0):alK w a b (k+1):=λe f=>by
 by_cases d:e=k
 ·rw[d];exact h0
 ·exact h e (by omega)
theorem fh_ (z n:Nat) (a:n<3) (w:QV):(Instr.indexAt 99 (YK (some ⟨z,0,none⟩)) (QY QU (n:Nat))).run QW w = .ok (YK (some ⟨z,n*6,none⟩)) w:=by rcases (show n=0\/n=1\/n=2 by omega) with rfl | rfl | rfl<;>kernel_rfl
def rl_ (W:Way) (a b:e_) (w:QV) (e:Ending) (w':QV):Prop:=e = YQ (QY QU (s_ W a b))/\XW w.heap.size w w'
theorem mr_ (W:Way) (hW:W.Ok) (a b:e_) (sa sb:Nat->XJ) (w:QV) (ka:∀n,v1_ (a.get n)) (fb:∀n,cg_ (b.get n)) (a0:ad_ w) (a1:ci_ w) :
    Calls QW 51 #[.agg (N_ a sa),.agg (N_ b sb),.agg #[QY QU (W.i:Nat),QY QU (W.j:Nat),QY QU (W.k:Nat)]] w (rl_ W a b w):=by
 have E:=q_ (λ(n:Nat) (s:QV) (hb:XW w.heap.size w s)=>Gr_ (a.get n) (b.get n) (sa n) (sb n) s (ka n) (fb n) (j_ a0 hb) (K_ a1 hb));obtain⟨v,Hv⟩:=a_ (s_ W a b);have HE:=q_ (show ∀w',XW w.heap.size w w'->rl_ W a b w (YQ (QY QU v)) w' from λw' hb=>⟨by rw[Hv.o],hb⟩);have B:=q_ (λ(k:Nat) (X:k<3) (h:alK W a b k) (f:y_ (a.get (W.get k)) (b.get (W.get k))≠0)=>(show v=y_ (a.get (W.get k)) (b.get (W.get k)) from Hv.o.symm.trans (F8_ X h f)));have U:=q_ (λh:alK W a b 3=>(show v=0 from Hv.o.symm.trans (Cs_ h)));have D:=q_ (λk:Nat=>hW.lt k);clear Hv ka fb a0 a1 hW;obtain⟨P,M⟩:=ba_ a sa;obtain⟨R,N⟩:=ba_ b sb;rw[M.o,N.o];obtain⟨z,Hz⟩:=a_ w.heap.size;obtain⟨i,Hi⟩:=a_ W.i;obtain⟨j,Hj⟩:=a_ W.j;obtain⟨l,Hl⟩:=a_ W.k;rw[Hi.o,Hj.o,Hl.o];obtain⟨Z,L⟩:=a_ (((w.alloc (XX P 99)).alloc (XX R 99)).alloc (XX #[QY QU (i:Nat),QY QU (j:Nat),QY QU (l:Nat)] 101));have t:=q_ (show AlM w z P R Z from by rw[<-L.o,<-Hz.o];exact⟨(F_ w _ _).alloc (by simp;omega) _,v4_ w _ _ _,v5_ w _ _ _⟩);have HP:=q_ (show Z.heap[z+2]?=QJ (XX #[QY QU (i:Nat),QY QU (j:Nat),QY QU (l:Nat)] 101 (0,0)) from by rw[<-L.o,<-Hz.o];exact v6_ w _ _ _);have p0:Z.cell? ⟨z+2,0,QK⟩=QJ (QY QU (i:Nat)):=QX HP.o 0;have p1:Z.cell? ⟨z+2,1,QK⟩=QJ (QY QU (j:Nat)):=QX HP.o 1;have p2:Z.cell? ⟨z+2,2,QK⟩=QJ (QY QU (l:Nat)):=QX HP.o 2;go_enter func51,ntmps51
 go_upto_region 1 with fail;rw[L.o,Hz.o];clear L;go_wp2_with fail;clear p0 p1 p2 HP;go_loopw [11] (λY wx=>∃k:Nat,k<=3/\Y = QY QU (k:Nat)/\AlM w z P R wx/\Q_ (alK W a b k)) (λY _=>3-(intOf Y).toNat)
 case atStart=>exact⟨0,by omega,rfl,t.o,q_ (λe he=>absurd he (by omega))⟩
 case round=>
  obtain⟨k,X,rfl,hM,C⟩:=hrel;clear t;have t:=q_ hM;clear hM;by_cases O:k=3
  ·subst O;have J:=q_ (U.o C.o);clear B U C;go_wp2_with fail;go_ret;have:=HE.o _ t.o.hb;rwa [J.o]at this
  ·rcases (show k=0\/k=1\/k=2 by omega) with rfl | rfl | rfl
   ·clear X O;have en:=q_ (show W.get 0=i from Hi.o);have p:=q_ (show i<3 from by rw[<-en.o];exact D.o 0);have m:=q_ (λ(s:QV) (hb:XW w.heap.size w s)=>E.o i s hb);unfold b7_ at m;have f:=q_ (B.o 0 (by omega) C.o);have q:=q_ (λh0=>ph_ (k:=0) C.o h0);rw[en.o]at f q;obtain⟨c,F⟩:=a_ (y_ (a.get i) (b.get i));rw[F.o]at m f q;clear B U C D E en F;have I:=λW:QV=>(show (Instr.index 101 (.agg #[QY QU (i:Nat),QY QU (j:Nat),QY QU (l:Nat)]) (QY QU 0)).run QW W = .ok (QY QU (i:Nat)) W from by kernel_rfl);go_upto_region 4 with fail;clear I;refine UZ (S:=λs=>AlM w z P R s) (by kernel_rfl) t.o.drew λd=>?_;refine H_.o ?_;refine O_ 0 14 (QY QU (i:Nat)) d λd=>?_;refine tlW 1 15 (YK (QJ ⟨z,i*6,QK⟩)) d (λw g=>?_) λd=>?_
    ·exact k_ (fh_ z i p.o w)
    refine tlW 2 16 (.agg (c_ (a.get i) (sa i))) d (λw g=>?_) λd=>?_
    ·exact k_ (jj_ (b4_ g.h1 M p.o) 39 _ YV rfl (by kernel_rfl))
    refine O_ 3 17 (QY QU (i:Nat)) d λd=>?_;refine tlW 4 18 (YK (QJ ⟨z+1,i*6,QK⟩)) d (λw g=>?_) λd=>?_
    ·exact k_ (fh_ (z+1) i p.o w)
    refine tlW 5 19 (.agg (c_ (b.get i) (sb i))) d (λw g=>?_) λd=>?_
    ·exact k_ (jj_ (b4_ g.h2 N p.o) 39 _ YV rfl (by kernel_rfl))
    obtain⟨u1,u⟩:=a_ (c_ (a.get i) (sa i));obtain⟨u2,x⟩:=a_ (c_ (b.get i) (sb i));rw[u.o,x.o]at m ⊢;refine tlC 6 λK G=>?_;go_simp;refine (m.o _ t.o.hb.drew).mono ?_;rintro e w2 ⟨rfl,y⟩;have A:=q_ (t.o.drew.on y);clear y m;dsimp only;refine tlB G A.o λd=>?_;clear G K;refine O_ 7 9 (QY QU c) d λd=>?_;refine⟨VX (by kernel_rfl) ?_ _⟩;clear d t u x p;by_cases r:c=0
    ·have V:(c != 0)=false:=by simpa using r
     have hz:=q_ (q.o r);clear r f q;go_wp2_with fail;go_roundw
     case rel=>exact⟨1,by omega,(by first | rfl | trivial),A.o,hz⟩
     case measure=>simp[intOf]
    ·have V:(c != 0)=true:=bne_iff_ne.2 r;have J:=q_ (f.o r);clear r f q;go_wp2_with fail;go_ret;have:=HE.o _ A.o.hb;rwa [J.o]at this
   ·clear X O;have en:=q_ (show W.get 1=j from Hj.o);have p:=q_ (show j<3 from by rw[<-en.o];exact D.o 1);have m:=q_ (λ(s:QV) (hb:XW w.heap.size w s)=>E.o j s hb);unfold b7_ at m;have f:=q_ (B.o 1 (by omega) C.o);have q:=q_ (λh0=>ph_ (k:=1) C.o h0);rw[en.o]at f q;obtain⟨c,F⟩:=a_ (y_ (a.get j) (b.get j));rw[F.o]at m f q;clear B U C D E en F;have I:=λW:QV=>(show (Instr.index 101 (.agg #[QY QU (i:Nat),QY QU (j:Nat),QY QU (l:Nat)]) (QY QU 1)).run QW W = .ok (QY QU (j:Nat)) W from by kernel_rfl);go_upto_region 4 with fail;clear I;refine UZ (S:=λs=>AlM w z P R s) (by kernel_rfl) t.o.drew λd=>?_;refine H_.o ?_;refine O_ 0 14 (QY QU (j:Nat)) d λd=>?_;refine tlW 1 15 (YK (QJ ⟨z,j*6,QK⟩)) d (λw g=>?_) λd=>?_
    ·exact k_ (fh_ z j p.o w)
    refine tlW 2 16 (.agg (c_ (a.get j) (sa j))) d (λw g=>?_) λd=>?_
    ·exact k_ (jj_ (b4_ g.h1 M p.o) 39 _ YV rfl (by kernel_rfl))
    refine O_ 3 17 (QY QU (j:Nat)) d λd=>?_;refine tlW 4 18 (YK (QJ ⟨z+1,j*6,QK⟩)) d (λw g=>?_) λd=>?_
    ·exact k_ (fh_ (z+1) j p.o w)
    refine tlW 5 19 (.agg (c_ (b.get j) (sb j))) d (λw g=>?_) λd=>?_
    ·exact k_ (jj_ (b4_ g.h2 N p.o) 39 _ YV rfl (by kernel_rfl))
    obtain⟨u1,u⟩:=a_ (c_ (a.get j) (sa j));obtain⟨u2,x⟩:=a_ (c_ (b.get j) (sb j));rw[u.o,x.o]at m ⊢;refine tlC 6 λK G=>?_;go_simp;refine (m.o _ t.o.hb.drew).mono ?_;rintro e w2 ⟨rfl,y⟩;have A:=q_ (t.o.drew.on y);clear y m;dsimp only;refine tlB G A.o λd=>?_;clear G K;refine O_ 7 9 (QY QU c) d λd=>?_;refine⟨VX (by kernel_rfl) ?_ _⟩;clear d t u x p;by_cases r:c=0
    ·have V:(c != 0)=false:=by simpa using r
     have hz:=q_ (q.o r);clear r f q;go_wp2_with fail;go_roundw
     case rel=>exact⟨2,by omega,(by first | rfl | trivial),A.o,hz⟩
     case measure=>simp[intOf]
    ·have V:(c != 0)=true:=bne_iff_ne.2 r;have J:=q_ (f.o r);clear r f q;go_wp2_with fail;go_ret;have:=HE.o _ A.o.hb;rwa [J.o]at this
   ·clear X O;have en:=q_ (show W.get 2=l from Hl.o);have p:=q_ (show l<3 from by rw[<-en.o];exact D.o 2);have m:=q_ (λ(s:QV) (hb:XW w.heap.size w s)=>E.o l s hb);unfold b7_ at m;have f:=q_ (B.o 2 (by omega) C.o);have q:=q_ (λh0=>ph_ (k:=2) C.o h0);rw[en.o]at f q;obtain⟨c,F⟩:=a_ (y_ (a.get l) (b.get l));rw[F.o]at m f q;clear B U C D E en F;have I:=λW:QV=>(show (Instr.index 101 (.agg #[QY QU (i:Nat),QY QU (j:Nat),QY QU (l:Nat)]) (QY QU 2)).run QW W = .ok (QY QU (l:Nat)) W from by kernel_rfl);go_upto_region 4 with fail;clear I;refine UZ (S:=λs=>AlM w z P R s) (by kernel_rfl) t.o.drew λd=>?_;refine H_.o ?_;refine O_ 0 14 (QY QU (l:Nat)) d λd=>?_;refine tlW 1 15 (YK (QJ ⟨z,l*6,QK⟩)) d (λw g=>?_) λd=>?_
    ·exact k_ (fh_ z l p.o w)
    refine tlW 2 16 (.agg (c_ (a.get l) (sa l))) d (λw g=>?_) λd=>?_
    ·exact k_ (jj_ (b4_ g.h1 M p.o) 39 _ YV rfl (by kernel_rfl))
    refine O_ 3 17 (QY QU (l:Nat)) d λd=>?_;refine tlW 4 18 (YK (QJ ⟨z+1,l*6,QK⟩)) d (λw g=>?_) λd=>?_
    ·exact k_ (fh_ (z+1) l p.o w)
    refine tlW 5 19 (.agg (c_ (b.get l) (sb l))) d (λw g=>?_) λd=>?_
    ·exact k_ (jj_ (b4_ g.h2 N p.o) 39 _ YV rfl (by kernel_rfl))
    obtain⟨u1,u⟩:=a_ (c_ (a.get l) (sa l));obtain⟨u2,x⟩:=a_ (c_ (b.get l) (sb l));rw[u.o,x.o]at m ⊢;refine tlC 6 λK G=>?_;go_simp;refine (m.o _ t.o.hb.drew).mono ?_;rintro e w2 ⟨rfl,y⟩;have A:=q_ (t.o.drew.on y);clear y m;dsimp only;refine tlB G A.o λd=>?_;clear G K;refine O_ 7 9 (QY QU c) d λd=>?_;refine⟨VX (by kernel_rfl) ?_ _⟩;clear d t u x p;by_cases r:c=0
    ·have V:(c != 0)=false:=by simpa using r
     have hz:=q_ (q.o r);clear r f q;go_wp2_with fail;go_roundw
     case rel=>exact⟨3,by omega,(by first | rfl | trivial),A.o,hz⟩
     case measure=>simp[intOf]
    ·have V:(c != 0)=true:=bne_iff_ne.2 r;have J:=q_ (f.o r);clear r f q;go_wp2_with fail;go_ret;have:=HE.o _ A.o.hb;rwa [J.o]at this
end
section
open Go Go.RowKit Go.Maps
def keyV (v:g_):ByteArray:=rf_ (d3_ v)
theorem Dw_ {v:g_} (a:S_ v<=200000):(keyV v).size<=40000000:=by
 have:=n3_ v;have e:(keyV v).size=(d3_ v).length:=by simp[keyV,rf_,ByteArray.size]
 omega
theorem Lh_ {v:g_} (a:S_ v<=200000):VS (keyV v):=by have:=Dw_ a;unfold VS maxLen;omega
theorem H4_ {v u:g_} (b:I_ v 0=true) (a:I_ u 0=true) (h1:lq_ v) (h2:lq_ u) (h:keyV v=keyV u):v=u:=by refine Ni_ b a h1 h2 ?_;have:=congrArg (λs:ByteArray=>s.data.toList) h;exact this
theorem nv_ {v:g_} (h:af_ v):S_ v<=40000:=by
 have a:=h.1
 have key:∀(k:Int) (b:Bool) (n:Int) (t x:ByteArray),v = .mk k b n t x []->t.size<=1048576->x.size<=1048576->S_ v<=40000:=λk b n t x e h1 h2=>by
  rw[e];simp only[S_,V_];omega
 have h0:(⟨#[]⟩:ByteArray).size<=1048576:=by decide
 rcases cd_ h with⟨_,e⟩ | ⟨_,e⟩ | ⟨_,_,e⟩ | ⟨d,e⟩
 ·exact key _ _ _ _ _ e h0 h0
 ·exact key _ _ _ _ _ e h0 h0
 ·rw[e]at a;exact key _ _ _ _ _ e (uy_ a).2.2.2.2 h0
 ·generalize v.kind=k at d e;rw[e]at a;rcases d with rfl | rfl | rfl | rfl
  ·have:=uz_ a;exact key _ _ _ _ _ e this.2.2.2.2 (by rw[this.2.2.1];exact h0)
  ·have:=ni_ a;exact key _ _ _ _ _ e this.2.2.2.2 (by rw[this.2.2.1];exact h0)
  ·have:=qf_ a;exact key _ _ _ _ _ e this.2.2.2.2 (by rw[this.2.2.1];exact h0)
  ·have:=o4_ a;exact key _ _ _ _ _ e this.2.2.2.1 this.2.2.2.2
theorem Ci_ {v:g_} (h:af_ v):v.list=[]:=by rcases cd_ h with⟨_,e⟩ | ⟨_,e⟩ | ⟨_,_,e⟩ | ⟨_,e⟩<;>(rw[e];rfl)
theorem yn_ {v:g_} (h:af_ v):lq_ v:=by
 have a:=Ci_ h;obtain⟨_,_,h1,h2⟩:=h
 cases v with
 | mk k b n t x l=>
  change l=[]at a;subst a;unfold lq_;refine⟨⟨h1,h2⟩,?_⟩;unfold u3_;trivial
theorem xs_ {v u:g_} (b:af_ v) (a:af_ u) (h:keyV v=keyV u):v=u:=H4_ b.1 a.1 (yn_ b) (yn_ a) h
theorem pa_ {v:g_} (h:af_ v):VS (keyV v):=Lh_ (ZX (nv_ h) (by decide))
theorem lx_ {D:List g_} (b:∀x,x∈D->af_ x) {v:g_} (d:af_ v):keyV v∈D.map keyV↔v∈D:=by
 rw[List.mem_map];constructor
 ·rintro⟨u,a,e⟩;rw[<-xs_ (b u a) d e];exact a
 ·exact λh=>⟨v,h,rfl⟩
open Classical in
theorem mkey_place {D:List g_} (d:∀x,x∈D->af_ x) {v:g_} (g:af_ v):((place (D.map keyV) (keyV v):Nat):Int)=bb_ D v:=by
 unfold bb_;congr 1
 induction D with
 | nil=>rfl
 | cons a r b=>
  have b:=b λx i=>d x (List.mem_cons_of_mem _ i);rw[List.map_cons,hs_,hs_,b];by_cases e:a=v
  ·subst e;rw[iP_ rfl,iP_ rfl]
  ·have f:keyV a≠keyV v:=λh=>e (xs_ (d a VJ) g h);rw[iN_ f,iN_ e]
theorem e9_ (w:QV) (F:Nat->Prop) {v:g_} (h:v.list=[]) (A:Option Addr) (a:Nat):VRd w F v (.agg (c_ v (QQ A 0 a))):=by have:=VRd.mk (w:=w) (F:=F) v A a ⟨0,0,none⟩ (λ_=>#[]) (by rw[h];exact Nat.zero_le _) (by rw[h];intro h;cases h) (by rw[h];intro i h;cases h) (by rw[h];intro i x h;simp at h);rw[h]at this;exact this
theorem ai_:(Tryz.prog.info? 39).map (·.size)=some 6:=by kernel_rfl
def pe_ (v:g_) (w:QV) (e:Ending) (w':QV):Prop:=e = YQ (QZ (keyV v))/\XW w.heap.size w w'
theorem qt_ (v:g_) (j:af_ v) (A:Option Addr) (d:Nat) (w:QV) (C:ad_ w):Calls QW 70 #[.agg (c_ v (QQ A 0 d))] w (pe_ v w):=by
 have a:=q_ (λ(W:QV) (hb:XW w.heap.size w W)=>z2_ v (ZX (nv_ j) (by decide)) (λ_=>False) (.agg (c_ v (QQ A 0 d))) W (λg h=>h.elim) (e9_ W _ (Ci_ j) A d) (j_ C hb));unfold Fs_ at a;unfold pe_;rw[j.1]at a;obtain⟨E,l⟩:=a_ (keyV v);have m:∀(W:QV) (q:Nat) (n:XJ),W.ownsRow q 5 1 n (d3_ v).length (Lib.byteCells (d3_ v))->(convert 197 9 n).run QW W = .ok (QZ E) W:=λW q n D=>by rw[<-l.o];exact wf_ D
 have k:=q_ m;obtain⟨en,y⟩:=a_ (d3_ v);rw[y.o]at k a;rw[l.o];obtain⟨c,x⟩:=L_ v (QQ A 0 d);rw[x.o]at a ⊢;clear m j;obtain⟨z,u⟩:=a_ w.heap.size;obtain⟨p,b⟩:=a_ (w.alloc (XX c 39));have f:=q_ (show XW w.heap.size w p from by rw[<-b.o];exact (XV _ _).alloc (XK _) _);have t:=q_ (show p.heap[z]?=QJ (XX c 39 (0,0)) from by rw[<-b.o,<-u.o];exact XU w _);have B:=q_ (show (Tryz.prog.info? 39).map (·.size)=QJ c.size from ai_.trans (congrArg QJ x.size.symm));go_enter func70,ntmps70
 go_upto_region 1 with fail;rw[b.o,u.o];clear b;go_wp2_with ((with_reducible refine d_ (some 6) ?_);refine G_ rfl 39 _ rfl z 0 rfl c _ (m_ t.o) YV rfl B.o ?_)
 refine (a.o p f.o).mono ?_;rintro e w2 ⟨hb,r,rfl,i⟩;have s:=q_ (f.o.trans (hb.mono f.o.size));have F:=k.o w2 _ r i;clear hb i;go_wp2_with fail;go_ret;exact⟨rfl,s.o⟩
end
section
open Go Go.RowKit
theorem Or_ {w:QV} {F:Nat->Prop} {l:List Int} {A:Option Addr} {n:Nat} (h:SRd 1 IxR w F l A n) {i:Nat} {x:Int} (g:l[i]?=QJ x) :
    ∃ad,A=QJ ad/\F ad.block/\w.cell? (ad.add i)=QJ (QY QU x):=by
 obtain⟨ad,c,e,d,_,f,b⟩:=h.at_ g;have a:=f 0 (by omega);rw[b]at a;exact⟨ad,e,d,by simpa using a⟩
def inI (l:List Int) (x:Int):Bool:=decide (x∈l)
def Mm_ (b:Bool) (w:QV) (e:Ending) (w':QV):Prop:=e = YQ (XY b)/\w'=w
def O9_ (b:Bool) (w:QV) (e:Ending) (w':QV):Prop:=∃r:Int,e = YQ (QY QU r)/\decide (0<=r)=b/\w'=w
theorem Ht_ (l:List Int) (x:Int) (F:Nat->Prop) (A:Option Addr) (n c:Nat) (w:QV) (h:SRd 1 IxR w F l A n) (E:n<=1000000000) :
    Calls QW 118 #[QQ A n c,QY QU x] w (O9_ (inI l x) w):=by
 have u:=q_ h;have q:=q_ h.1;clear h;obtain⟨r,f⟩:=a_ (inI l x);rw[f.o];go_enter func118,ntmps118
 go_wp2_with fail;go_loopw [8] (λi z=>∃k:Nat,k<=n/\i = QY QU (k:Nat)/\Q_ (z=w/\x∉l.take k)) (λi _=>n-(intOf i).toNat)
 case atStart=>exact⟨0,by omega,rfl,q_ ⟨rfl,by simp⟩⟩
 case round=>
  obtain⟨k,D,rfl,b⟩:=hrel;by_cases t:k<n
  ·obtain⟨y,g⟩:∃y,l[k]?=QJ y:=⟨l[k]'(by rw[<-q.o];exact t),XQ _⟩;have m:=q_ g;obtain⟨ad,rfl,_,G⟩:=Or_ (u.o.keep IxR.good (w':=wr) (λp _=>by rw[b.o.1])) g;clear g;have B:(0:Int)<=k:=by omega
   have C:(k:Int)<n:=by omega
   have I:IntKind.i64.wrap ((k:Int)+1)=(k:Int)+1:=YU _ (by omega);by_cases a:x=y
   ·subst a;have v:(x==x)=true:=beq_self_eq_true _;have e:=q_ (show r=true from by rw[<-f.o];exact dT_ (YZ m.o));go_wp2_with fail;go_ret;exact⟨(k:Int),rfl,by rw[e.o];simp,b.o.1⟩
   ·have v:(x==y)=false:=bN_.2 a;have j:=q_ a;clear a;go_wp2_with fail;go_roundw
    case rel=>
     refine⟨k+1,by omega,by go_num,q_ ⟨b.o.1,λd=>?_⟩⟩;rw[f_ m.o]at d;rcases List.mem_append.1 d with d | d
     ·exact b.o.2 d
     ·exact j.o (List.mem_singleton.1 d)
    case measure=>simp[intOf];omega
  ·have s:n=k:=by omega
   subst s;have e:=q_ (show r=false from by rw[<-f.o];refine dF_ ?_;have h:=b.o.2;rw[YJ (by rw[<-q.o];exact XK _)]at h;exact h);go_wp2_with fail;go_ret;exact⟨-1,rfl,by rw[e.o];simp,b.o.1⟩
theorem r1_ (l:List Int) (x:Int) (F:Nat->Prop) (A:Option Addr) (n c:Nat) (w:QV) (h:SRd 1 IxR w F l A n) (d:n<=1000000000) :
    Calls QW 58 #[QQ A n c,QY QU x] w (Mm_ (inI l x) w):=by
 have a:=q_ (Ht_ l x F A n c w h d);clear h;obtain⟨r,b⟩:=a_ (inI l x);rw[b.o]at a ⊢;clear b;go_enter func58,ntmps58
 go_wp2_with fail;refine a.o.mono ?_;rintro e w' ⟨q,rfl,f,rfl⟩;go_wp2_with fail;go_ret;exact⟨by rw[<-f];rfl,rfl⟩
def TrR:bu_ e_:=λw F t c=>∃a:Nat->XJ,c=N_ t a/\∀n,n<3->VRd w F (t.get n) (.agg (c_ (t.get n) (a n)))
theorem TrR.good:TrR.Good:=⟨fun⟨ss,e,h⟩ hk=>⟨ss,e,λn a=>(h n a).keep hk⟩,fun⟨ss,e,h⟩ hF=>⟨ss,e,λn a=>(h n a).mono hF⟩⟩
structure OkV (v:g_):Prop where
 size:S_ v<=100000000
 n0:-9223372036854775808<=v.num
 n1:v.num<=9223372036854775807
theorem OkV.fit {v:g_} (h:OkV v):cg_ v:=⟨h.n0,h.n1,by
 have:=h.size
 cases v with
 | mk k b n t x l=>
 simp only[S_]at this;show t.size<=_;omega⟩
def OkT (t:e_):Prop:=OkV t.s/\OkV t.p/\OkV t.o
theorem OkT.get {t:e_} (h:OkT t) (n:Nat):OkV (t.get n):=by
 unfold e_.get;split
 ·exact h.1
 ·split
  ·exact h.2.1
  ·exact h.2.2
theorem bx_ {t:e_} (h:ch_ t=true) (a:OkT t):cj_ t:=by unfold ch_ at h;simp only[YW,decide_eq_true_eq]at h;exact⟨⟨h.1,by omega,a.1.n0,a.1.n1⟩,⟨h.2.1,by omega,a.2.1.n0,a.2.1.n1⟩,⟨h.2.2.1,by omega,a.2.2.n0,a.2.2.n1⟩⟩
theorem ax_ {P:Program} {e:Func} {a:Tmp} {T i:TypeId} {w:QV} (h:e.results=#[.cell a T]) {b:Array XJ} {g:Nat} (ht:b.getD a undef = YK (QJ ⟨g,0,QK⟩)) {c:Array XJ} (l:w.heap[g]?=QJ (XX c i (0,0)))
    (d:TypeDesc) (k:P.underlying T=QJ d) (j:d.isRow=true) (hi:(P.info? T).map (·.size)=QJ c.size):(results e b).run P w = .ok (.agg c) w:=by
 have:=run_loadVar_mid (P:=P) w g 0 T c.toList d (m_ l) k j (by rw[Array.length_toList];exact hi);rw[Array.toArray_toList]at this;have f:b[a]?.getD undef = YK (QJ ⟨g,0,QK⟩):=by rw[<-ht];simp
 simp[results,h,f,asAddr,this]
def nm_:List Int:=[8,9,10,4,1,2,3]
theorem yr_ (w:QV):SRd 1 IxR (w.alloc (XX #[QY QU 8,QY QU 9,QY QU 10,QY QU 4,QY QU 1,QY QU 2,QY QU 3] 3)) (λb=>b=w.heap.size) nm_ (QJ ⟨w.heap.size,0,QK⟩) 7:=by
 refine⟨rfl,λ_=>⟨_,rfl,rfl,λi x a=>⟨#[QY QU x],rfl,λj f=>?_,rfl⟩⟩⟩;have d:j=0:=by omega
 subst d;have hi:=(List.getElem?_eq_some_iff.1 a).1;have e:i<7:=hi;rcases (show i=0\/i=1\/i=2\/i=3\/i=4\/i=5\/i=6 by omega) with rfl | rfl | rfl | rfl | rfl | rfl | rfl
 all_goals (injection a with a;subst a;exact QX (XU w _) _)
theorem Lp_ (s p o:g_):ch_ ⟨s,p,o⟩=(I_ s 0&&(I_ p 0&&(I_ o 0&&(decide (p.kind=8)&&(decide (s.kind=8\/s.kind=9)&&inI nm_ o.kind))))):=by unfold ch_ inI nm_;simp only[List.mem_cons,List.not_mem_nil,or_false]
theorem p1_ (f:Int) (b:Bool) (i:Int) (l o:ByteArray) (r:List g_) (g:Int) (d:Bool) (j:Int) (m p:ByteArray) (s:List g_) (h:Int) (e:Bool) (k:Int) (n q:ByteArray) (t:List g_) (a:Nat->XJ):N_ ⟨.mk f b i l o r,.mk g d j m p s,.mk h e k n q t⟩ a=#[QY QU f,XY b,QY QU i,QZ l,QZ o,a 0,QY QU g,XY d,QY QU j,QZ m,QZ p,a 1,QY QU h,XY e,QY QU k,QZ n,QZ q,a 2]:=by kernel_rfl
def Bf_ (c:Array XJ) (w:QV) (e:Ending) (w':QV):Prop:=e = YQ (.agg c)/\XW w.heap.size w w'
theorem x3_ (t:e_) (Y:Nat->XJ) (m:∀n,n<3->∃A l c,Y n = QQ A l c) (w:QV):Calls QW 47 #[.agg (N_ t Y)] w (Bf_ (N_ t Y) w):=by
 obtain⟨q,e,C,h0⟩:=m 0 (by omega);obtain⟨r,f,D,h1⟩:=m 1 (by omega);obtain⟨u,h,E,h2⟩:=m 2 (by omega)
 cases t with
 | mk s p o=>
 cases s with
 | mk F x J N R l0=>
 cases p with
 | mk G y L O S l1=>
 cases o with
 | mk I B M P U l2=>
 rw[p1_,h0,h1,h2];clear h0 h1 h2 m;have i:=q_ (show (Tryz.prog.info? 99).map (·.size)=some 18 from by kernel_rfl);have V:=q_ (show (#[QY QU F,XY x,QY QU J,QZ N,QZ R,(QQ q e C),QY QU G,XY y,QY QU L,QZ O,QZ S,(QQ r f D),QY QU I,XY B,QY QU M,QZ P,QZ U,(QQ u h E)]:Array XJ).all (·.oneCell')=true from by kernel_rfl);obtain⟨z,W⟩:=a_ w.heap.size;obtain⟨a,j⟩:=a_ ((w.alloc (XX #[QY QU F,XY x,QY QU J,QZ N,QZ R,(QQ q e C),QY QU G,XY y,QY QU L,QZ O,QZ S,(QQ r f D),QY QU I,XY B,QY QU M,QZ P,QZ U,(QQ u h E)] 41)).alloc (XX #[QY QU 0,XY false,QY QU 0,QZ ⟨#[]⟩,QZ ⟨#[]⟩,QQ QK 0 0,QY QU 0,XY false,QY QU 0,QZ ⟨#[]⟩,QZ ⟨#[]⟩,QQ QK 0 0,QY QU 0,XY false,QY QU 0,QZ ⟨#[]⟩,QZ ⟨#[]⟩,QQ QK 0 0] 99));have Z:=q_ (show XW w.heap.size w a from by rw[<-j.o];exact F_ w _ _);have b:=q_ (show a.heap[z]?=QJ (XX #[QY QU F,XY x,QY QU J,QZ N,QZ R,(QQ q e C),QY QU G,XY y,QY QU L,QZ O,QZ S,(QQ r f D),QY QU I,XY B,QY QU M,QZ P,QZ U,(QQ u h E)] 41 (0,0)) from by rw[<-j.o,<-W.o];exact heap_alloc2_old w _ _);have HY:=q_ (show a.heap[z+1]?=QJ (XX #[QY QU 0,XY false,QY QU 0,QZ ⟨#[]⟩,QZ ⟨#[]⟩,QQ QK 0 0,QY QU 0,XY false,QY QU 0,QZ ⟨#[]⟩,QZ ⟨#[]⟩,QQ QK 0 0,QY QU 0,XY false,QY QU 0,QZ ⟨#[]⟩,QZ ⟨#[]⟩,QQ QK 0 0] 99 (0,0)) from by rw[<-j.o,<-W.o];exact heap_alloc2_new w _ _);go_enter func47,ntmps47
 go_upto_region 1 with fail;rw[j.o,W.o];clear j;have p0:=(show a.cell? ⟨z,0,QK⟩=QJ (QY QU F) from QX b.o 0);have p1:=(show a.cell? ⟨z,1,QK⟩=QJ (XY x) from QX b.o 1);have p2:=(show a.cell? ⟨z,2,QK⟩=QJ (QY QU J) from QX b.o 2);have p3:=(show a.cell? ⟨z,3,QK⟩=QJ (QZ N) from QX b.o 3);have p4:=(show a.cell? ⟨z,4,QK⟩=QJ (QZ R) from QX b.o 4);have p5:=(show a.cell? ⟨z,5,QK⟩=QJ (QQ q e C) from QX b.o 5);have p6:=(show a.cell? ⟨z,6,QK⟩=QJ (QY QU G) from QX b.o 6);have p7:=(show a.cell? ⟨z,7,QK⟩=QJ (XY y) from QX b.o 7);have p8:=(show a.cell? ⟨z,8,QK⟩=QJ (QY QU L) from QX b.o 8);have p9:=(show a.cell? ⟨z,9,QK⟩=QJ (QZ O) from QX b.o 9);have a2:=(show a.cell? ⟨z,10,QK⟩=QJ (QZ S) from QX b.o 10);have a3:=(show a.cell? ⟨z,11,QK⟩=QJ (QQ r f D) from QX b.o 11);have a4:=(show a.cell? ⟨z,12,QK⟩=QJ (QY QU I) from QX b.o 12);have a5:=(show a.cell? ⟨z,13,QK⟩=QJ (XY B) from QX b.o 13);have a6:=(show a.cell? ⟨z,14,QK⟩=QJ (QY QU M) from QX b.o 14);have a7:=(show a.cell? ⟨z,15,QK⟩=QJ (QZ P) from QX b.o 15);have a8:=(show a.cell? ⟨z,16,QK⟩=QJ (QZ U) from QX b.o 16);have a9:=(show a.cell? ⟨z,17,QK⟩=QJ (QQ u h E) from QX b.o 17);go_wp2_with ((with_reducible refine w_ 2 ?_);refine o_ rfl 99 _ _ rfl (z+1) (#[QY QU 0,XY false,QY QU 0,QZ ⟨#[]⟩,QZ ⟨#[]⟩,QQ QK 0 0,QY QU 0,XY false,QY QU 0,QZ ⟨#[]⟩,QZ ⟨#[]⟩,QQ QK 0 0,QY QU 0,XY false,QY QU 0,QZ ⟨#[]⟩,QZ ⟨#[]⟩,QQ QK 0 0]) (#[QY QU F,XY x,QY QU J,QZ N,QZ R,(QQ q e C),QY QU G,XY y,QY QU L,QZ O,QZ S,(QQ r f D),QY QU I,XY B,QY QU M,QZ P,QZ U,(QQ u h E)]) 99 rfl rfl HY.o rfl i.o V.o ?_;intro w2 X d)
 have a0:=q_ (show XW w.heap.size w w2 from Z.o.trans ⟨d.os,d.tape,d.output,d.size,λk hk=>d.block k (XZ hk Z.o.size) (by rw[<-W.o];omega)⟩);have a1:=q_ X;clear X d;go_wp2_with fail;refine ZV (v:=.agg #[QY QU F,XY x,QY QU J,QZ N,QZ R,(QQ q e C),QY QU G,XY y,QY QU L,QZ O,QZ S,(QQ r f D),QY QU I,XY B,QY QU M,QZ P,QZ U,(QQ u h E)]) (ax_ results47 (g:=z+1) rfl a1.o _ underlying99 rfl i.o) rfl ⟨rfl,a0.o⟩
theorem zr_ (t:e_) (ok:OkT t) (F:Nat->Prop) (S:Nat->XJ) (w:QV) (V:∀g,F g->g<w.heap.size) (hv:∀n,n<3->VRd w F (t.get n) (.agg (c_ (t.get n) (S n)))) (hg:ad_ w) :
    Calls QW 15 #[.agg (N_ t S)] w (n_ (ch_ t) w):=by
 have v:=q_ (λ(W:QV) (hb:XW w.heap.size w W)=>ei_ t.s (ZX ok.1.size (by decide)) F (.agg (c_ t.s (S 0))) W (λg h=>XZ (V g h) hb.size) ((hv 0 (by omega)).under hb V) (j_ hg hb));have x:=q_ (λ(W:QV) (hb:XW w.heap.size w W)=>ei_ t.p (ZX ok.2.1.size (by decide)) F (.agg (c_ t.p (S 1))) W (λg h=>XZ (V g h) hb.size) ((hv 1 (by omega)).under hb V) (j_ hg hb));have y:=q_ (λ(W:QV) (hb:XW w.heap.size w W)=>ei_ t.o (ZX ok.2.2.size (by decide)) F (.agg (c_ t.o (S 2))) W (λg h=>XZ (V g h) hb.size) ((hv 2 (by omega)).under hb V) (j_ hg hb));clear ok hv V hg;unfold n_ at v x y ⊢
 cases t with
 | mk s p o=>
 rw[Lp_];have Y:=q_ (And.intro (λh:p.kind=8=>(dT_ h:decide (p.kind=8)=true)) (λh:p.kind≠8=>(dF_ h:decide (p.kind=8)=false)));have U:=q_ (And.intro (λh:s.kind=8\/s.kind=9=>(dT_ h:decide (s.kind=8\/s.kind=9)=true)) (λh:¬(s.kind=8\/s.kind=9)=>(dF_ h:decide (s.kind=8\/s.kind=9)=false)));have A:=q_ (λ(W:QV) (g:Nat) (h:SRd 1 IxR W (λb=>b=g) nm_ (QJ ⟨g,0,QK⟩) 7)=>r1_ nm_ o.kind (λb=>b=g) (QJ ⟨g,0,QK⟩) 7 7 W h (by omega));unfold Mm_ at A;obtain⟨d8,a1⟩:=a_ (decide (p.kind=8));obtain⟨d9,a2⟩:=a_ (decide (s.kind=8\/s.kind=9));obtain⟨iv,a3⟩:=a_ (inI nm_ o.kind);rw[a1.o]at Y ⊢;rw[a2.o]at U ⊢;rw[a3.o]at A ⊢;clear a1 a2 a3;obtain⟨m0,H0⟩:=a_ (I_ s 0);obtain⟨m1,H1⟩:=a_ (I_ p 0);obtain⟨m2,H2⟩:=a_ (I_ o 0);simp only at v x y;rw[H0.o]at v ⊢;rw[H1.o]at x ⊢;rw[H2.o]at y ⊢;clear H0 H1 H2
 cases s with
 | mk q Z n0 t0 x0 l0=>
 cases p with
 | mk O b1 n1 t1 x1 l1=>
 cases o with
 | mk R b2 n2 t2 x2 l2=>
 unfold c_ at v x y;rw[p1_];simp only[g_.kind,g_.truth,g_.num,g_.text,g_.extra]at v x y A Y U ⊢;obtain⟨u0,h0⟩:=a_ (S 0);obtain⟨u1,h1⟩:=a_ (S 1);obtain⟨u2,h2⟩:=a_ (S 2);rw[h0.o]at v ⊢;rw[h1.o]at x ⊢;rw[h2.o]at y ⊢;clear h0 h1 h2;obtain⟨z,Hz⟩:=a_ w.heap.size;obtain⟨k,X⟩:=a_ (w.alloc (XX #[QY QU q,XY Z,QY QU n0,QZ t0,QZ x0,u0,QY QU O,XY b1,QY QU n1,QZ t1,QZ x1,u1,QY QU R,XY b2,QY QU n2,QZ t2,QZ x2,u2] 41));have HB:=q_ (show XW w.heap.size w k from by rw[<-X.o];exact (XV _ _).alloc (XK _) _);have j:=q_ (show k.heap[z]?=QJ (XX #[QY QU q,XY Z,QY QU n0,QZ t0,QZ x0,u0,QY QU O,XY b1,QY QU n1,QZ t1,QZ x1,u1,QY QU R,XY b2,QY QU n2,QZ t2,QZ x2,u2] 41 (0,0)) from by rw[<-X.o,<-Hz.o];exact XU w _);go_enter func15,ntmps15
 go_upto_region 1 with fail;rw[X.o,Hz.o];clear X;have p0:=(show k.cell? ⟨z,0,QK⟩=QJ (QY QU q) from QX j.o 0);have p1:=(show k.cell? ⟨z,1,QK⟩=QJ (XY Z) from QX j.o 1);have p2:=(show k.cell? ⟨z,2,QK⟩=QJ (QY QU n0) from QX j.o 2);have p3:=(show k.cell? ⟨z,3,QK⟩=QJ (QZ t0) from QX j.o 3);have p4:=(show k.cell? ⟨z,4,QK⟩=QJ (QZ x0) from QX j.o 4);have p5:=(show k.cell? ⟨z,5,QK⟩=QJ u0 from QX j.o 5);have p6:=(show k.cell? ⟨z,6,QK⟩=QJ (QY QU O) from QX j.o 6);have p7:=(show k.cell? ⟨z,7,QK⟩=QJ (XY b1) from QX j.o 7);have p8:=(show k.cell? ⟨z,8,QK⟩=QJ (QY QU n1) from QX j.o 8);have p9:=(show k.cell? ⟨z,9,QK⟩=QJ (QZ t1) from QX j.o 9);have D:=(show k.cell? ⟨z,10,QK⟩=QJ (QZ x1) from QX j.o 10);have E:=(show k.cell? ⟨z,11,QK⟩=QJ u1 from QX j.o 11);have G:=(show k.cell? ⟨z,12,QK⟩=QJ (QY QU R) from QX j.o 12);have I:=(show k.cell? ⟨z,13,QK⟩=QJ (XY b2) from QX j.o 13);have J:=(show k.cell? ⟨z,14,QK⟩=QJ (QY QU n2) from QX j.o 14);have L:=(show k.cell? ⟨z,15,QK⟩=QJ (QZ t2) from QX j.o 15);have M:=(show k.cell? ⟨z,16,QK⟩=QJ (QZ x2) from QX j.o 16);have N:=(show k.cell? ⟨z,17,QK⟩=QJ u2 from QX j.o 17);go_wp2_with fail;refine (v.o _ HB.o).mono ?_;rintro e w2 ⟨rfl,hb⟩;have r:=q_ (HB.o.trans (hb.mono HB.o.size));have d:=q_ ((hb.block _ (b_ j.o)).trans j.o);clear hb p0 p1 p2 p3 p4 p5 p6 p7 p8 p9 D E G I J L M N;have p0:=(show w2.cell? ⟨z,0,QK⟩=QJ (QY QU q) from QX d.o 0);have p1:=(show w2.cell? ⟨z,1,QK⟩=QJ (XY Z) from QX d.o 1);have p2:=(show w2.cell? ⟨z,2,QK⟩=QJ (QY QU n0) from QX d.o 2);have p3:=(show w2.cell? ⟨z,3,QK⟩=QJ (QZ t0) from QX d.o 3);have p4:=(show w2.cell? ⟨z,4,QK⟩=QJ (QZ x0) from QX d.o 4);have p5:=(show w2.cell? ⟨z,5,QK⟩=QJ u0 from QX d.o 5);have p6:=(show w2.cell? ⟨z,6,QK⟩=QJ (QY QU O) from QX d.o 6);have p7:=(show w2.cell? ⟨z,7,QK⟩=QJ (XY b1) from QX d.o 7);have p8:=(show w2.cell? ⟨z,8,QK⟩=QJ (QY QU n1) from QX d.o 8);have p9:=(show w2.cell? ⟨z,9,QK⟩=QJ (QZ t1) from QX d.o 9);have D:=(show w2.cell? ⟨z,10,QK⟩=QJ (QZ x1) from QX d.o 10);have E:=(show w2.cell? ⟨z,11,QK⟩=QJ u1 from QX d.o 11);have G:=(show w2.cell? ⟨z,12,QK⟩=QJ (QY QU R) from QX d.o 12);have I:=(show w2.cell? ⟨z,13,QK⟩=QJ (XY b2) from QX d.o 13);have J:=(show w2.cell? ⟨z,14,QK⟩=QJ (QY QU n2) from QX d.o 14);have L:=(show w2.cell? ⟨z,15,QK⟩=QJ (QZ t2) from QX d.o 15);have M:=(show w2.cell? ⟨z,16,QK⟩=QJ (QZ x2) from QX d.o 16);have N:=(show w2.cell? ⟨z,17,QK⟩=QJ u2 from QX d.o 17)
 cases m0 with
 | false=>
  go_wp2_with fail;go_ret;exact⟨rfl,r.o⟩
 | true=>
  go_wp2_with fail;refine (x.o _ r.o).mono ?_;rintro e m ⟨rfl,hb⟩;have u:=q_ (r.o.trans (hb.mono r.o.size));have f:=q_ ((hb.block _ (b_ d.o)).trans d.o);clear hb p0 p1 p2 p3 p4 p5 p6 p7 p8 p9 D E G I J L M N;have p0:=(show m.cell? ⟨z,0,QK⟩=QJ (QY QU q) from QX f.o 0);have p1:=(show m.cell? ⟨z,1,QK⟩=QJ (XY Z) from QX f.o 1);have p2:=(show m.cell? ⟨z,2,QK⟩=QJ (QY QU n0) from QX f.o 2);have p3:=(show m.cell? ⟨z,3,QK⟩=QJ (QZ t0) from QX f.o 3);have p4:=(show m.cell? ⟨z,4,QK⟩=QJ (QZ x0) from QX f.o 4);have p5:=(show m.cell? ⟨z,5,QK⟩=QJ u0 from QX f.o 5);have p6:=(show m.cell? ⟨z,6,QK⟩=QJ (QY QU O) from QX f.o 6);have p7:=(show m.cell? ⟨z,7,QK⟩=QJ (XY b1) from QX f.o 7);have p8:=(show m.cell? ⟨z,8,QK⟩=QJ (QY QU n1) from QX f.o 8);have p9:=(show m.cell? ⟨z,9,QK⟩=QJ (QZ t1) from QX f.o 9);have D:=(show m.cell? ⟨z,10,QK⟩=QJ (QZ x1) from QX f.o 10);have E:=(show m.cell? ⟨z,11,QK⟩=QJ u1 from QX f.o 11);have G:=(show m.cell? ⟨z,12,QK⟩=QJ (QY QU R) from QX f.o 12);have I:=(show m.cell? ⟨z,13,QK⟩=QJ (XY b2) from QX f.o 13);have J:=(show m.cell? ⟨z,14,QK⟩=QJ (QY QU n2) from QX f.o 14);have L:=(show m.cell? ⟨z,15,QK⟩=QJ (QZ t2) from QX f.o 15);have M:=(show m.cell? ⟨z,16,QK⟩=QJ (QZ x2) from QX f.o 16);have N:=(show m.cell? ⟨z,17,QK⟩=QJ u2 from QX f.o 17)
  cases m1 with
  | false=>
   go_wp2_with fail;go_ret;exact⟨rfl,u.o⟩
  | true=>
   go_wp2_with fail;refine (y.o _ u.o).mono ?_;rintro e i ⟨rfl,hb⟩;have l:=q_ (u.o.trans (hb.mono u.o.size));have a:=q_ ((hb.block _ (b_ f.o)).trans f.o);clear hb p0 p1 p2 p3 p4 p5 p6 p7 p8 p9 D E G I J L M N;have p0:=(show i.cell? ⟨z,0,QK⟩=QJ (QY QU q) from QX a.o 0);have p1:=(show i.cell? ⟨z,1,QK⟩=QJ (XY Z) from QX a.o 1);have p2:=(show i.cell? ⟨z,2,QK⟩=QJ (QY QU n0) from QX a.o 2);have p3:=(show i.cell? ⟨z,3,QK⟩=QJ (QZ t0) from QX a.o 3);have p4:=(show i.cell? ⟨z,4,QK⟩=QJ (QZ x0) from QX a.o 4);have p5:=(show i.cell? ⟨z,5,QK⟩=QJ u0 from QX a.o 5);have p6:=(show i.cell? ⟨z,6,QK⟩=QJ (QY QU O) from QX a.o 6);have p7:=(show i.cell? ⟨z,7,QK⟩=QJ (XY b1) from QX a.o 7);have p8:=(show i.cell? ⟨z,8,QK⟩=QJ (QY QU n1) from QX a.o 8);have p9:=(show i.cell? ⟨z,9,QK⟩=QJ (QZ t1) from QX a.o 9);have D:=(show i.cell? ⟨z,10,QK⟩=QJ (QZ x1) from QX a.o 10);have E:=(show i.cell? ⟨z,11,QK⟩=QJ u1 from QX a.o 11);have G:=(show i.cell? ⟨z,12,QK⟩=QJ (QY QU R) from QX a.o 12);have I:=(show i.cell? ⟨z,13,QK⟩=QJ (XY b2) from QX a.o 13);have J:=(show i.cell? ⟨z,14,QK⟩=QJ (QY QU n2) from QX a.o 14);have L:=(show i.cell? ⟨z,15,QK⟩=QJ (QZ t2) from QX a.o 15);have M:=(show i.cell? ⟨z,16,QK⟩=QJ (QZ x2) from QX a.o 16);have N:=(show i.cell? ⟨z,17,QK⟩=QJ u2 from QX a.o 17)
   cases m2 with
   | false=>
    go_wp2_with fail;go_ret;exact⟨rfl,l.o⟩
   | true=>
    by_cases C:O=8
    ·have e1:(O != 8)=false:=by simpa using C
     have E1:=q_ (Y.o.1 C);clear C;by_cases B:q=8
     ·have e0:(q != 8)=false:=by simpa using B
      have E0:=q_ (U.o.1 (.inl B));clear B;have a5:(i.alloc (XX #[QY QU 8,QY QU 9,QY QU 10,QY QU 4,QY QU 1,QY QU 2,QY QU 3] 3)).cell? ⟨z,12,QK⟩=QJ (QY QU R):=QX ((Below.heap_alloc _ _ _ (b_ a.o)).trans a.o) 12;have a0:=q_ (A.o (i.alloc (XX #[QY QU 8,QY QU 9,QY QU 10,QY QU 4,QY QU 1,QY QU 2,QY QU 3] 3)) i.heap.size (yr_ i));clear Y U A;go_wp2_with fail;refine a0.o.mono ?_;rintro e w5 ⟨rfl,a4⟩;subst w5;go_wp2_with fail;go_ret;exact⟨by rw[E0.o,E1.o];rfl,l.o.alloc (by have:=l.o.size;omega) _⟩
     ·have e0:(q != 8)=true:=bne_iff_ne.2 B;by_cases P:q=9
      ·have e9:(q != 9)=false:=by simpa using P
       have E0:=q_ (U.o.1 (.inr P));clear B P;have a5:(i.alloc (XX #[QY QU 8,QY QU 9,QY QU 10,QY QU 4,QY QU 1,QY QU 2,QY QU 3] 3)).cell? ⟨z,12,QK⟩=QJ (QY QU R):=QX ((Below.heap_alloc _ _ _ (b_ a.o)).trans a.o) 12;have a0:=q_ (A.o (i.alloc (XX #[QY QU 8,QY QU 9,QY QU 10,QY QU 4,QY QU 1,QY QU 2,QY QU 3] 3)) i.heap.size (yr_ i));clear Y U A;go_wp2_with fail;refine a0.o.mono ?_;rintro e w5 ⟨rfl,a4⟩;subst w5;go_wp2_with fail;go_ret;exact⟨by rw[E0.o,E1.o];rfl,l.o.alloc (by have:=l.o.size;omega) _⟩
      ·have e9:(q != 9)=true:=bne_iff_ne.2 P;have E0:=q_ (U.o.2 (by omega));clear B P;go_wp2_with fail;go_ret;exact⟨by rw[E0.o,E1.o];rfl,l.o⟩
    ·have e1:(O != 8)=true:=bne_iff_ne.2 C;have E1:=q_ (Y.o.2 C);clear C;go_wp2_with fail;go_ret;exact⟨by rw[E1.o];rfl,l.o⟩
theorem v_ {P:Program} (w:QV) (a:Addr) (ty:TypeId) (c:Array XJ) (d:TypeDesc) (f:∀j,j<c.size->w.cell? (a.add j)=c[j]?)
    (l:P.underlying ty=QJ d) (m:d.isRow=true) (hi:(P.info? ty).map (·.size)=QJ c.size):(loadVar ty a).run P w = .ok (.agg c) w:=by
 have h:(loadCells a c.size).run P w = .ok c w:=by
  have:=run_loadCells_list (P:=P) w a c.toList (λj v e=>by
   have g:j<c.size:=by have:=(List.getElem?_eq_some_iff.1 e).1;simpa using this
   rw[f j g,<-Array.getElem?_toList];exact e)
  rw[Array.toArray_toList,Array.length_toList]at this;exact this
 cases hq:P.info? ty with
 | none=>simp[hq]at hi
 | some i=>
  have k:i.size=c.size:=by simpa [hq] using hi
  have b:(isAgg ty).run P w = .ok true w:=by
   unfold isAgg;rw[Sem.run_bind,run_underlying l w]
   cases d<;>simp_all
  simp[loadVar,Sem.run_bind,b,sizeOf,typeInfo,hq,k,h]
theorem u9_ {P:Program} {b:Array Oper} {rest:List Oper} {op:Oper} {a:Act} {w:QV} {Q:Exit->Act->QV->Prop} (e:op.guard=QK) (ty:TypeId) (x:Operand) (k:op.op = .load ty x) {p:Addr} (m:a.eval x = .pointer (QJ p)) (c:Array XJ) (d:TypeDesc) (g:∀j,j<c.size->w.cell? (p.add j)=c[j]?)
    (l:P.underlying ty=QJ d) (i:d.isRow=true) (hi:(P.info? ty).map (·.size)=QJ c.size) (h:wpList P b Q rest (a.put op.dst (.agg c)) w):wpList P b Q (op::rest) a w:=
 wpList_plain e λ_ f=>by
  unfold Oper.wp execOp;simp only[k,m,Instr.loadAt,Instr.sureAddr,Sem.run_bind,Sem.run_pure,Result.andThen_ok,v_ w p ty c d g l i hi];exact f _ _ h
theorem e8_:(Tryz.prog.info? 41).map (·.size)=some 18:=by kernel_rfl
theorem fz_:(Tryz.prog.info? 99).map (·.size)=some 18:=by kernel_rfl
theorem Kp_ (t:e_) (u:OkT t) (F:Nat->Prop) (d:Nat->XJ) (w:QV) (k:∀g,F g->g<w.heap.size) (s:∀n,n<3->VRd w F (t.get n) (.agg (c_ (t.get n) (d n)))) (r:ad_ w) :
    Calls QW 46 #[.agg (N_ t d)] w (n_ (!(ch_ t)) w):=by
 have b:=q_ (λ(W:QV) (hb:XW w.heap.size w W)=>zr_ t u F d W (λg h=>XZ (k g h) hb.size) (λn A=>(s n A).under hb k) (j_ r hb));clear s k r u;unfold n_ at b ⊢;obtain⟨m,p⟩:=a_ (ch_ t);rw[p.o]at b ⊢;clear p;obtain⟨j,f⟩:=ba_ t d;rw[f.o]at b ⊢;have y:=q_ (e8_.trans (congrArg QJ f.size.symm));obtain⟨z,q⟩:=a_ w.heap.size;obtain⟨v,a⟩:=a_ (w.alloc (XX j 41));have i:=q_ (show XW w.heap.size w v from by rw[<-a.o];exact (XV _ _).alloc (XK _) _);have x:=q_ (show v.heap[z]?=QJ (XX j 41 (0,0)) from by rw[<-a.o,<-q.o];exact XU w _);go_enter func46,ntmps46
 go_upto_region 1 with fail;rw[a.o,q.o];clear a;go_wp2_with ((with_reducible refine d_ (some 3) ?_);refine G_ rfl 41 _ rfl z 0 rfl j _ (m_ x.o) underlying41 rfl y.o ?_)
 refine (b.o _ i.o).mono ?_;rintro e w2 ⟨rfl,hb⟩;have l:=q_ (i.o.trans (hb.mono i.o.size));clear hb;go_wp2_with fail;go_ret;exact⟨rfl,l.o⟩
theorem TrR.cells {w:QV} {F:Nat->Prop} {L:List e_} {A:Option Addr} {n:Nat} (h:SRd 18 TrR w F L A n) {k:Nat} {t:e_} (ht:L[k]?=QJ t) :
    ∃ad a,A=QJ ad/\F ad.block/\(∀j,j<(N_ t a).size->w.cell? ((ad.add (k*18)).add j)=(N_ t a)[j]?)/\∀i,i<3->VRd w F (t.get i) (.agg (c_ (t.get i) (a i))):=by
 obtain⟨ad,c,e,b,l,d,a,rfl,g⟩:=h.at_ ht;exact⟨ad,a,e,b,λj f=>by rw[add_of_add];exact d j f,g⟩
def Mh_ (b:Bool) (w:QV) (e:Ending) (w':QV):Prop:=∃r:Int,e = YQ (QY QU r)/\decide (0<=r)=b/\XW w.heap.size w w'
theorem Hs_ (L:List e_) (p:∀t,t∈L->OkT t) (F:Nat->Prop) (A:Option Addr) (n c:Nat) (w:QV) (v:∀g,F g->g<w.heap.size) (h:SRd 18 TrR w F L A n) (Y:n<=1000000000) (E:ad_ w) :
    Calls QW 111 #[QQ A n c,.func (.func 46) #[] #[]] w (Mh_ (!(L.all ch_)) w):=by
 have M:=q_ (λ(W:QV) (hb:XW w.heap.size w W)=>h.under TrR.good hb v);have D:=q_ h.1;have d:=q_ (λ(W:QV) (hb:XW w.heap.size w W) (t:e_) (ht:t∈L) (f:Nat->XJ) (R:∀n,n<3->VRd W F (t.get n) (.agg (c_ (t.get n) (f n))))=>Kp_ t (p t ht) F f W (λg h=>XZ (v g h) hb.size) R (j_ E hb));unfold n_ at d;clear h p v E;obtain⟨r,s⟩:=a_ (!(L.all ch_));rw[s.o];go_enter func111,ntmps111
 go_wp2_with fail;go_loopw [8] (λz S=>∃k:Nat,k<=n/\z = QY QU (k:Nat)/\Q_ (XW w.heap.size w S/\(L.take k).all ch_=true)) (λz _=>n-(intOf z).toNat)
 case atStart=>exact⟨0,by omega,rfl,q_ ⟨XV _ _,by simp⟩⟩
 case round=>
  obtain⟨k,X,rfl,b⟩:=hrel;by_cases I:k<n
  ·obtain⟨y,i⟩:∃y,L[k]?=QJ y:=⟨L[k]'(by rw[<-D.o];exact I),XQ _⟩;have C:=q_ i;obtain⟨ad,f,rfl,_,x,J⟩:=TrR.cells (M.o wr b.o.1) i;have a:=q_ (d.o wr b.o.1 y (YZ i) f J);clear i J;obtain⟨m,u⟩:=a_ (ch_ y);rw[u.o]at a;obtain⟨P,l⟩:=ba_ y f;rw[l.o]at a x;have B:=q_ x;clear x;have O:=q_ (e8_.trans (congrArg QJ l.size.symm));have U:(0:Int)<=k:=by omega
   have V:(k:Int)<n:=by omega
   have Z:IntKind.i64.wrap ((k:Int)+1)=(k:Int)+1:=YU _ (by omega);go_wp2_with ((with_reducible refine d_ (some 15) ?_);refine u9_ rfl 41 _ rfl rfl P _ B.o underlying41 rfl O.o ?_)
   refine a.o.mono ?_;rintro e w2 ⟨rfl,hb⟩;have j:=q_ (b.o.1.trans (hb.mono b.o.1.size));have N:=q_ b.o.2;clear hb b a B
   cases m with
   | false=>
    have q:=q_ (show r=true from by rw[<-s.o,Bool.not_eq_true',List.all_eq_false];exact⟨y,YZ C.o,by rw[u.o];exact Bool.false_ne_true⟩);go_wp2_with fail;go_ret;exact⟨(k:Int),rfl,by rw[q.o];simp,j.o⟩
   | true=>
    go_wp2_with fail;go_roundw
    case rel=>exact⟨k+1,by omega,by go_num,q_ ⟨j.o,by rw[f_ C.o,List.all_append,N.o,Bool.true_and];simp[u.o]⟩⟩
    case measure=>simp[intOf];omega
  ·have G:n=k:=by omega
   subst G;have q:=q_ (show r=false from by rw[<-s.o,Bool.not_eq_false'];have h:=b.o.2;rw[YJ (by rw[<-D.o];exact XK _)]at h;exact h);go_wp2_with fail;go_ret;exact⟨-1,rfl,by rw[q.o];simp,b.o.1⟩
theorem r0_ (L:List e_) (a:∀t,t∈L->OkT t) (F:Nat->Prop) (A:Option Addr) (n c:Nat) (w:QV) (f:∀g,F g->g<w.heap.size) (h:SRd 18 TrR w F L A n) (l:n<=1000000000) (i:ad_ w) :
    Calls QW 45 #[QQ A n c,.func (.func 46) #[] #[]] w (n_ (!(L.all ch_)) w):=by
 have b:=q_ (Hs_ L a F A n c w f h l i);unfold Mh_ at b;clear h a f i;obtain⟨r,d⟩:=a_ (!(L.all ch_));rw[d.o]at b ⊢;clear d;go_enter func45,ntmps45
 go_wp2_with fail;refine b.o.mono ?_;rintro e m ⟨q,rfl,j,hb⟩;have k:=q_ j;clear j;go_wp2_with fail;go_ret;exact⟨by rw[<-k.o];rfl,hb⟩
def gs_ (W:Way):Array XJ:=#[QY QU (W.i:Nat),QY QU (W.j:Nat),QY QU (W.k:Nat)]
theorem Cz_ (W:Way) (F:W.Ok) (a b:e_) (sa sb:Nat->XJ) (g:Nat) (w:QV) (A:w.heap[g]?=QJ (XX (gs_ W) 101 (0,0))) (G:∀n,v1_ (a.get n)) (E:∀n,cg_ (b.get n)) (s:ad_ w) (t:ci_ w) :
    Calls QW 50 #[.agg (N_ a sa),.agg (N_ b sb),YK (QJ ⟨g,0,QK⟩)] w (rl_ W a b w):=by
 have m:=q_ (λ(D:QV) (hb:XW w.heap.size w D)=>mr_ W F a b sa sb D G E (j_ s hb) (K_ t hb));clear G E s t F;unfold rl_ at m ⊢;obtain⟨v,C⟩:=a_ (s_ W a b);rw[C.o]at m ⊢;clear C;obtain⟨x,q⟩:=ba_ a sa;obtain⟨y,r⟩:=ba_ b sb;rw[q.o,r.o]at m ⊢;have O:=q_ (fz_.trans (congrArg QJ q.size.symm));have P:=q_ (fz_.trans (congrArg QJ r.size.symm));obtain⟨z,u⟩:=a_ w.heap.size;obtain⟨f,d⟩:=a_ ((w.alloc (XX x 99)).alloc (XX y 99));have p:=q_ (show XW w.heap.size w f from by rw[<-d.o];exact F_ w _ _);have I:=q_ (show f.heap[z]?=QJ (XX x 99 (0,0)) from by rw[<-d.o,<-u.o];exact heap_alloc2_old w _ _);have J:=q_ (show f.heap[z+1]?=QJ (XX y 99 (0,0)) from by rw[<-d.o,<-u.o];exact heap_alloc2_new w _ _);have h:=q_ (show f.heap[g]?=QJ (XX (gs_ W) 101 (0,0)) from (p.o.block g (b_ A)).trans A);clear A;obtain⟨i,L⟩:=a_ W.i;obtain⟨j,M⟩:=a_ W.j;obtain⟨l,N⟩:=a_ W.k;unfold gs_ at h;rw[L.o,M.o,N.o]at m h;have R:f.cell? ⟨g,0,QK⟩=QJ (QY QU (i:Nat)):=QX h.o 0;have S:f.cell? ⟨g,1,QK⟩=QJ (QY QU (j:Nat)):=QX h.o 1;have U:f.cell? ⟨g,2,QK⟩=QJ (QY QU (l:Nat)):=QX h.o 2;go_enter func50,ntmps50
 go_upto_region 1 with fail;rw[d.o,u.o];clear d
 go_wp2_with (first
  | ((with_reducible refine d_ (some 6) ?_);refine G_ rfl 99 _ rfl z 0 rfl x _ (m_ I.o) underlying99 rfl O.o ?_)
  | ((with_reducible refine d_ (some 7) ?_);refine G_ rfl 99 _ rfl (z+1) 0 rfl y _ (m_ J.o) underlying99 rfl P.o ?_))
 refine (m.o _ p.o).mono ?_;rintro e w2 ⟨rfl,hb⟩;have B:=q_ (p.o.trans (hb.mono p.o.size));clear hb R S U;go_wp2_with fail;go_ret;exact⟨rfl,B.o⟩
theorem C0_ (W:Way) (F:W.Ok) (a b:e_) (sa sb:Nat->XJ) (g:Nat) (w:QV) (A:w.heap[g]?=QJ (XX (gs_ W) 101 (0,0))) (G:∀n,v1_ (a.get n)) (E:∀n,cg_ (b.get n)) (s:ad_ w) (t:ci_ w) :
    Calls QW 53 #[.agg (N_ a sa),.agg (N_ b sb),YK (QJ ⟨g,0,QK⟩)] w (n_ (s_ W a b==0) w):=by
 have m:=q_ (λ(D:QV) (hb:XW w.heap.size w D)=>mr_ W F a b sa sb D G E (j_ s hb) (K_ t hb));clear G E s t F;unfold rl_ at m;unfold n_;obtain⟨v,C⟩:=a_ (s_ W a b);rw[C.o]at m ⊢;clear C;obtain⟨x,q⟩:=ba_ a sa;obtain⟨y,r⟩:=ba_ b sb;rw[q.o,r.o]at m ⊢;have O:=q_ (fz_.trans (congrArg QJ q.size.symm));have P:=q_ (fz_.trans (congrArg QJ r.size.symm));obtain⟨z,u⟩:=a_ w.heap.size;obtain⟨f,d⟩:=a_ ((w.alloc (XX x 99)).alloc (XX y 99));have p:=q_ (show XW w.heap.size w f from by rw[<-d.o];exact F_ w _ _);have I:=q_ (show f.heap[z]?=QJ (XX x 99 (0,0)) from by rw[<-d.o,<-u.o];exact heap_alloc2_old w _ _);have J:=q_ (show f.heap[z+1]?=QJ (XX y 99 (0,0)) from by rw[<-d.o,<-u.o];exact heap_alloc2_new w _ _);have h:=q_ (show f.heap[g]?=QJ (XX (gs_ W) 101 (0,0)) from (p.o.block g (b_ A)).trans A);clear A;obtain⟨i,L⟩:=a_ W.i;obtain⟨j,M⟩:=a_ W.j;obtain⟨l,N⟩:=a_ W.k;unfold gs_ at h;rw[L.o,M.o,N.o]at m h;have R:f.cell? ⟨g,0,QK⟩=QJ (QY QU (i:Nat)):=QX h.o 0;have S:f.cell? ⟨g,1,QK⟩=QJ (QY QU (j:Nat)):=QX h.o 1;have U:f.cell? ⟨g,2,QK⟩=QJ (QY QU (l:Nat)):=QX h.o 2;go_enter func53,ntmps53
 go_upto_region 1 with fail;rw[d.o,u.o];clear d
 go_wp2_with (first
  | ((with_reducible refine d_ (some 6) ?_);refine G_ rfl 99 _ rfl z 0 rfl x _ (m_ I.o) underlying99 rfl O.o ?_)
  | ((with_reducible refine d_ (some 7) ?_);refine G_ rfl 99 _ rfl (z+1) 0 rfl y _ (m_ J.o) underlying99 rfl P.o ?_))
 refine (m.o _ p.o).mono ?_;rintro e w2 ⟨rfl,hb⟩;have B:=q_ (p.o.trans (hb.mono p.o.size));clear hb R S U;go_wp2_with fail;go_ret;exact⟨rfl,B.o⟩
end
end Go.Proofs.YtefhfadjajcmkaaGreatDoor
