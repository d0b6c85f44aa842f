/- Two numbers held against each other by the program: printed by gen_WZ.py. -/
import Derived.Test.YtefhfadjajcmkaaGreatDoorJ4
import Derived.ChangeKeysEq
import Derived.Laws.StructEq
set_option linter.unusedVariables false
set_option linter.unusedSimpArgs false
set_option maxRecDepth 100000
set_option maxHeartbeats 64000000
namespace Go.Proofs.YtefhfadjajcmkaaGreatDoor
open Go Go.RowKit
open Go.Lib (cell_of_heap)
theorem q9_ (n:Bool) (f:Nat->Nat) {i:Nat} (h:i<16):(S_ n f)[i+1]?=some (.int .u64 (f i:Int)):=by unfold S_;rw[Array.getElem?_append_right (by simp)];exact c2_ f h
theorem fi_ (n:Bool) (f:Nat->Nat):(S_ n f)[0]?=some (.bool n):=by unfold S_;rw[Array.getElem?_append_left (by simp)];rfl
theorem gh_ {w:World} {b:Nat} {n:Bool} {f:Nat->Nat} (h:w.heap[b]?=some (cz_ (S_ n f))):WAt w b 1 f:=λi hi=>by
 rw[Nat.add_comm 1 i];exact (cell_of_row _ _ _ _ _ _ h).trans (q9_ n f hi)
theorem j2_ {w:World} {b:Nat} {n:Bool} {f:Nat->Nat} (h:w.heap[b]?=some (cz_ (S_ n f))):w.cell? ⟨b,0,none⟩=some (.bool n):=
 (cell_of_row _ _ _ _ _ _ h).trans (fi_ n f)
theorem f1_ {w:World} {b o:Nat} {f:Nat->Nat} (h:WAt w b o f):w.rangeAt b o (P_ f).toList:=λj v a=>by
 rw[Array.getElem?_toList]at a;have c:j<16:=by obtain⟨c,_⟩:=Array.getElem?_eq_some_iff.1 a;rwa [W_]at c
 rw[c2_ f c]at a;injection a with a;rw[h j c,a]
theorem ra_ {w:World} {b:Nat} {n:Bool} {f:Nat->Nat} (h0:w.cell? ⟨b,0,none⟩=some (.bool n)) (h:WAt w b 1 f):w.rangeAt b 0 (S_ n f).toList:=λj v a=>by
 rw[Nat.zero_add];rw[Array.getElem?_toList]at a
 cases j with
 | zero=>rw[fi_]at a;rw[h0,a]
 | succ j=>
  have c:j<16:=by obtain⟨c,_⟩:=Array.getElem?_eq_some_iff.1 a;rw[t_]at c;omega
  rw[q9_ n f c]at a;rw[Nat.add_comm j 1,h j c,a]
theorem Ew_ {x y c B:Nat} (h:x+c*B=y) (a:y<B):x=y:=by
 rcases Nat.eq_zero_or_pos c with h0 | h0
 ·rw[h0,Nat.zero_mul]at h;exact h
 ·have h2:1*B<=c*B:=Nat.mul_le_mul_right _ h0;omega
def Lv_ (w:World) (V:Int) (z:Nat) (a:World):Prop:=∃(b c:Bool) (fa fb:Nat->Nat),a.heap[z]?=some (cz_ (S_ b fa))/\a.heap[z+1]?=some (cz_ (S_ c fb))/\a.heap[z+1+1]?=some (cz_ bo_)/\Below w.heap.size w a /\
 pv fb 16<=pv fa 16/\(∀i,i<16->fa i<bW)/\(∀i,i<16->fb i<bW)/\sgV b (pv fa 16)+sgV c (pv fb 16)=V/\b≠c
theorem Ia_ (n:Bool) (x y:Nat):sgV n (x+y)=sgV n x+sgV n y:=by cases n<;>simp[sgV]<;>omega
theorem Ib_ {a b:Bool} {x y:Nat} (h:a≠b) (c:y<=x):sgV a (x-y)=sgV a x+sgV b y:=by cases a<;>cases b<;>first | exact absurd rfl h | (simp[sgV];omega)
def Kt_ (V:Int) (w:World) (e:Ending) (w':World):Prop:=∃(a:Bool) (h:Nat->Nat),e = .returned (.agg (S_ a h))/\Below w.heap.size w w'/\(∀i,i<16->h i<bW)/\sgV a (pv h 16)=V
theorem Ex_ (l u:Bool) (f g:Nat->Nat) (hf:∀i,i<16->f i<bW) (hg:∀i,i<16->g i<bW) (W:pv f 16+pv g 16<bW ^ 16) (w:World) :
    Calls Tryz.prog 265 #[.agg (S_ l f),.agg (S_ u g)] w (Kt_ (sgV l (pv f 16)+sgV u (pv g 16)) w):=by
 have HF:=q_ hf;have HG:=q_ hg;have b0:=q_ W;obtain⟨z,x⟩:=a_ w.heap.size;obtain⟨O,m⟩:=me_ l f;obtain⟨D,t⟩:=me_ u g;obtain⟨P,y⟩:=a_ (((w.alloc (.cells O 293)).alloc (.cells D 293)).alloc (.cells #[.bool false,.int .u64 0,.int .u64 0,.int .u64 0,.int .u64 0,.int .u64 0,.int .u64 0,.int .u64 0,.int .u64 0,.int .u64 0,.int .u64 0,.int .u64 0,.int .u64 0,.int .u64 0,.int .u64 0,.int .u64 0,.int .u64 0] 293));have L:=q_ (show Below w.heap.size w P from by rw[<-y.o];exact (L_ w _ _).alloc (by simp;omega) _);have k:=q_ (show P.heap[z]?=some (cz_ (S_ l f)) from by rw[<-y.o,<-x.o,m.o,Below.heap_alloc _ _ _ (by simp;omega)];exact heap_alloc2_old w _ _);have C:=q_ (show P.heap[z+1]?=some (cz_ (S_ u g)) from by rw[<-y.o,<-x.o,t.o,Below.heap_alloc _ _ _ (by simp)];exact heap_alloc2_new w _ _);have a3:=q_ (show P.heap[z+2]?=some (cz_ bo_) from by rw[<-y.o,<-x.o];have:=heap_alloc_new ((w.alloc (.cells O 293)).alloc (.cells D 293)) (.cells bo_ 293);simp only[World.size_alloc]at this;exact this);have x0:P.cell? ⟨z,0,none⟩=some (.bool l):=j2_ k.o;have y0:P.cell? ⟨z+1,0,none⟩=some (.bool u):=j2_ C.o;clear hf hg W;obtain⟨V,S⟩:=a_ (sgV l (pv f 16)+sgV u (pv g 16));rw[m.o,t.o,S.o];go_enter Tryz.func265,Tryz.ntmps265
 go_upto_region 1 with fail;rw[y.o,x.o];clear y;by_cases U:l=u
 ·subst U;have t1:(l==l)=true:=beq_self_eq_true _;have a7:=q_ (D9_ z 1 f g P HF.o HG.o (gh_ k.o) (λj=>frozen_of_row _ _ _ _ _ k.o) (b_ k.o));have E:=q_ (f1_ (gh_ C.o));obtain⟨u2,F⟩:=q8_ g;have ab:=q_ (show (Tryz.prog.info? 291).map (·.size)=some u2.size from by rw[<-F.o,W_];kernel_rfl);rw[F.o]at a7 E
  go_wp2_with (first
   | ((with_reducible refine e_ (some 12) ?_);refine A_ rfl 291 _ rfl (z+1) 1 rfl u2 _ (E.o) Tryz.underlying291 rfl ab.o ?_))
  refine a7.o.mono ?_;rintro e w3 ⟨rfl,h,hh,hb,⟨c,hc⟩,a,G⟩;have X:=q_ hh;have a1:=q_ hb;have HV:=q_ (Ew_ hc b0.o);have a6:=q_ ((G 0 (.inl (by decide))).trans (j2_ k.o));have a9:=q_ (show w3.heap[z+1+1]?=some (cz_ bo_) from a.heap a3.o (show ¬z+1+1=z by omega));have J:=q_ (a.below (B:=w.heap.size) (λb _ h=>by have h:b=z:=h;have:=x.o;omega) L.o.size);clear hh hb hc a G x0 y0;obtain⟨d,n⟩:=me_ l h;have N:=q_ (ra_ a6.o X.o);have ac:=q_ (show d.size=bo_.size from by rw[<-n.o,t_];rfl);have q:=q_ (show (Tryz.prog.info? 293).map (·.size)=some d.size from by rw[<-n.o,t_];kernel_rfl);have a8:=q_ (show d.all (·.oneCell')=true from by rw[<-n.o];exact ay_ _ _);rw[n.o]at N
  go_wp2_with (first
   | ((with_reducible refine e_ (some 14) ?_);refine A_ rfl 293 _ rfl z 0 rfl d _ (N.o) Tryz.underlying293 rfl q.o ?_)
   | ((with_reducible refine z_ 4 ?_);refine r_ rfl 293 _ _ rfl (z+1+1) bo_ d 293 rfl rfl a9.o ac.o q.o a8.o ?_;intro w4 M s))
  refine bodyPost_ret (v:=.agg d) (results_cell_row (p:=4) (ty:=293) (by kernel_rfl) _ _ (z+1+1) 293 d (0,0) _ rfl M Tryz.underlying293 rfl q.o) rfl ⟨l,h,by rw[n.o],?_,a1.o,?_⟩
  ·exact L.o.trans (J.o.trans (s.below (λb _ h=>by have h:b=z+1+1:=h;have:=x.o;omega) (Nat.le_trans L.o.size J.o.size)))
  ·rw[HV.o,<-S.o];exact Ia_ _ _ _
 ·have t1:(l==u)=false:=beq_eq_false_iff_ne.2 U;have am:=q_ U;have R:=q_ (Eb_ f g P HF.o HG.o);have E:=q_ (f1_ (gh_ k.o));have aw:=q_ (f1_ (gh_ C.o));have bb:=q_ (p_ k.o);have ba:=q_ (p_ C.o);obtain⟨u1,ao⟩:=q8_ f;obtain⟨u2,F⟩:=q8_ g;have b9:=q_ (show (Tryz.prog.info? 291).map (·.size)=some u1.size from by rw[<-ao.o,W_];kernel_rfl);have ab:=q_ (show (Tryz.prog.info? 291).map (·.size)=some u2.size from by rw[<-F.o,W_];kernel_rfl);have aj:=q_ (show (Tryz.prog.info? 293).map (·.size)=some O.size from by rw[<-m.o,t_];kernel_rfl);have ap:=q_ (show (Tryz.prog.info? 293).map (·.size)=some D.size from by rw[<-t.o,t_];kernel_rfl);have b5:=q_ (show O.all (·.oneCell')=true from by rw[<-m.o];exact ay_ _ _);have b7:=q_ (show D.all (·.oneCell')=true from by rw[<-t.o];exact ay_ _ _);have ae:=q_ (show D.size=O.size from by rw[<-m.o,<-t.o,t_,t_]);rw[ao.o]at R E;rw[F.o]at R aw;obtain⟨r,Hr⟩:=a_ (ud_ (pv f 16) (pv g 16));rw[Hr.o]at R;clear U
  go_wp2_with (first
   | ((with_reducible refine e_ (some 16) ?_);refine A_ rfl 291 _ rfl z 1 rfl u1 _ (E.o) Tryz.underlying291 rfl b9.o ?_)
   | ((with_reducible refine e_ (some 18) ?_);refine A_ rfl 291 _ rfl (z+1) 1 rfl u2 _ (aw.o) Tryz.underlying291 rfl ab.o ?_))
  refine R.o.mono ?_;rintro e w2 ⟨rfl,I⟩;have Z:=q_ ((I.block z (b_ k.o)).trans k.o);have a4:=q_ ((I.block (z+1) (b_ C.o)).trans C.o);have ay:=q_ (show w2.heap[z+1+1]?=some (cz_ bo_) from (I.block (z+1+1) (b_ a3.o)).trans a3.o);have T:=q_ (L.o.trans (I.mono L.o.size));clear I x0 y0;go_upto_if 20 with fail;go_cut [] (λwx=>Lv_ w V z wx)
  case first=>
   by_cases A:pv f 16<pv g 16
   ·have g0:r<0:=by rw[<-Hr.o];unfold ud_;rw[if_pos A];decide
    have a2:=q_ A;have aq:=q_ (p_ Z.o);have ad:=q_ (p_ a4.o);have ar:=q_ Z.o;have af:=q_ a4.o;rw[m.o]at ar aq;rw[t.o]at af ad;clear A
    go_wp2_with (first
     | ((with_reducible refine e_ (some 21) ?_);refine A_ rfl 293 _ rfl (z+1) 0 rfl D _ (ad.o) Tryz.underlying293 rfl ap.o ?_)
     | ((with_reducible refine e_ (some 22) ?_);refine A_ rfl 293 _ rfl z 0 rfl O _ (aq.o) Tryz.underlying293 rfl aj.o ?_)
     | ((with_reducible refine z_ 2 ?_);refine r_ rfl 293 _ _ rfl z O D 293 rfl rfl ar.o ae.o ap.o b7.o ?_;intro w3 b6 a)
     | ((with_reducible refine z_ 3 ?_);refine r_ rfl 293 _ _ rfl (z+1) D O 293 rfl rfl (a.heap af.o (show ¬z+1=z by omega)) ae.o.symm aj.o b5.o ?_;intro w4 M s))
    go_meet;refine⟨u,l,g,f,?_,?_,?_,?_,Nat.le_of_lt a2.o,HG.o,HF.o,(Int.add_comm _ _).trans S.o,λh=>am.o h.symm⟩
    ·rw[t.o];exact s.heap b6 (show ¬z=z+1 by omega)
    ·rw[m.o];exact M
    ·exact s.heap (a.heap ay.o (show ¬z+1+1=z by omega)) (show ¬z+1+1=z+1 by omega)
    ·exact T.o.trans ((a.below (B:=w.heap.size) (λb _ h=>by have h:b=z:=h;have:=x.o;omega) T.o.size).trans (s.below (B:=w.heap.size) (λb _ h=>by have h:b=z+1:=h;have:=x.o;omega) (Nat.le_trans T.o.size a.size)))
   ·have g0:¬r<0:=by rw[<-Hr.o];unfold ud_;rw[if_neg A];split<;>decide
    have a2:=q_ A;clear A;go_wp2_with fail;go_meet;exact⟨l,u,f,g,Z.o,a4.o,ay.o,T.o,Nat.le_of_not_lt a2.o,HF.o,HG.o,S.o,am.o⟩
  case rest=>
   obtain⟨na,nb,fa,fb,hx,hy,hr,ah,a5,ak,au,Y,ag⟩:=hcut;have a0:=q_ ah;have b2:=q_ a5;have az:=q_ Y;have b4:=q_ ag;have aa:=q_ (Ea_ z 1 fa fb wc ak au (gh_ hx) (λj=>frozen_of_row _ _ _ _ _ hx) (b_ hx) a5);have ai:=q_ (f1_ (gh_ hy));have b3:=q_ (j2_ hx);have b1:=q_ hr;obtain⟨ub,av⟩:=q8_ fb;have b8:=q_ (show (Tryz.prog.info? 291).map (·.size)=some ub.size from by rw[<-av.o,W_];kernel_rfl);rw[av.o]at aa ai;clear hx hy hr ah a5 ak au Y ag R
   go_wp2_with (first
    | ((with_reducible refine e_ (some 25) ?_);refine A_ rfl 291 _ rfl (z+1) 1 rfl ub _ (ai.o) Tryz.underlying291 rfl b8.o ?_))
   refine aa.o.mono ?_;rintro e w3 ⟨rfl,h,hh,hb,hp,a,G⟩;have X:=q_ hh;have a1:=q_ hb;have HV:=q_ hp;have a6:=q_ ((G 0 (.inl (by decide))).trans b3.o);have a9:=q_ (show w3.heap[z+1+1]?=some (cz_ bo_) from a.heap b1.o (show ¬z+1+1=z by omega));have J:=q_ (a.below (B:=w.heap.size) (λb _ h=>by have h:b=z:=h;have:=x.o;omega) a0.o.size);clear hh hb hp a G;obtain⟨d,n⟩:=me_ na h;have N:=q_ (ra_ a6.o X.o);have ac:=q_ (show d.size=bo_.size from by rw[<-n.o,t_];rfl);have q:=q_ (show (Tryz.prog.info? 293).map (·.size)=some d.size from by rw[<-n.o,t_];kernel_rfl);have a8:=q_ (show d.all (·.oneCell')=true from by rw[<-n.o];exact ay_ _ _);rw[n.o]at N
   go_wp2_with (first
    | ((with_reducible refine e_ (some 27) ?_);refine A_ rfl 293 _ rfl z 0 rfl d _ (N.o) Tryz.underlying293 rfl q.o ?_)
    | ((with_reducible refine z_ 4 ?_);refine r_ rfl 293 _ _ rfl (z+1+1) bo_ d 293 rfl rfl a9.o ac.o q.o a8.o ?_;intro w4 M s))
   refine bodyPost_ret (v:=.agg d) (results_cell_row (p:=4) (ty:=293) (by kernel_rfl) _ _ (z+1+1) 293 d (0,0) _ rfl M Tryz.underlying293 rfl q.o) rfl ⟨na,h,by rw[n.o],?_,a1.o,?_⟩
   ·exact a0.o.trans (J.o.trans (s.below (λb _ h=>by have h:b=z+1+1:=h;have:=x.o;omega) (Nat.le_trans a0.o.size J.o.size)))
   ·rw[<-az.o,HV.o];exact Ib_ b4.o b2.o
def ur_:Array Value:=P_ (λ_=>0)
theorem Ey_ (h:Nat->Nat) (W:World):∀is:List Nat,(∀i,i∈is->i<16)->(Op.eqItems 9999 225 1 (P_ h) ur_ is).run Tryz.prog W = .ok (is.all λi=>decide (h i=0)) W:=by
 have g:Tryz.prog.underlying 225=some (.int .u64):=by kernel_rfl
 intro is;induction is with
 | nil=>intro _;rfl
 | cons i is e=>
  intro hi;have h1:=c2_ h (hi i (List.mem_cons_self ..));have h2:ur_[i]?=some (.int .u64 ((0:Nat):Int)):=c2_ (λ_=>0) (hi i (List.mem_cons_self ..));have c:=e (λj d=>hi j (List.mem_cons_of_mem _ d));obtain⟨a,f⟩:=a_ (P_ h);rw[f.o]at h1 c ⊢;obtain⟨b,hb⟩:=a_ ur_;rw[hb.o]at h2 c ⊢;simp only[Op.eqItems,Nat.mul_one,List.all_cons];go_simp;by_cases hz:h i=0
  ·rw[if_pos hz,decide_eq_true hz,Bool.true_and]
  ·rw[if_neg hz,decide_eq_false hz,Bool.false_and]
theorem y5_ {h:Nat->Nat}:∀n:Nat,pv h n=0↔∀i,i<n->h i=0:=by
 intro n;induction n with
 | zero=>exact⟨λ_ i hi=>absurd hi (Nat.not_lt_zero _),λ_=>rfl⟩
 | succ n b=>
  rw[pv,Nat.add_eq_zero_iff,b,Nat.mul_eq_zero];have c:bW ^ n≠0:=Nat.pos_iff_ne_zero.1 (Nat.pow_pos (by decide));constructor
  ·rintro⟨h1,h2⟩ i hi;rcases Nat.lt_or_ge i n with a | a
   ·exact h1 i a
   ·have:i=n:=by omega
    rw[this];rcases h2 with h2 | h2
    ·exact h2
    ·exact absurd h2 c
  ·intro h1;exact⟨λi hi=>h1 i (by omega),.inl (h1 n (by omega))⟩
theorem Ic_:(Tryz.prog.info? 225).map (λi=>(i.zero,i.size,i.bytes))=some (some (.int .u64 0),1,8):=by kernel_rfl
theorem Ku_:Tryz.prog.eqGuardType Tryz.prog.depth 291=false:=by kernel_rfl
theorem Ez_ (h:Nat->Nat) (W:World):(binOp .eql 291 (.agg (P_ h)) (.agg ur_)).run Tryz.prog W = .ok (.bool (decide (pv h 16=0))) W:=by
 obtain⟨i,hi,_⟩:=info_parts Ic_;have a:Tryz.prog.cellsOf 225=1:=by kernel_rfl
 rw[run_eql_struct,run_equalIn_array W 9999 _ _ Tryz.underlying291 hi,a,Ey_ h W (List.range 16) (λi hi=>List.mem_range.1 hi)];have e:((List.range 16).all λi=>decide (h i=0))=decide (pv h 16=0):=by rw[Bool.eq_iff_iff,decide_eq_true_iff,List.all_eq_true];exact⟨λh1=>(y5_ 16).2 λi hi=>of_decide_eq_true (h1 i (List.mem_range.2 hi)),λh1 i hi=>decide_eq_true ((y5_ 16).1 h1 i (List.mem_range.1 hi))⟩
 rw[e];rfl
theorem st_ (b:Bool) (n:Nat):(sgV b n).natAbs=n:=by
 cases b
 ·show ((n:Nat):Int).natAbs=n;omega
 ·show (-((n:Nat):Int)).natAbs=n;omega
theorem xf_ {s:ByteArray} (h:cr_ s=true):(g2_ s).natAbs<10 ^ 60:=by
 obtain⟨e,a,b,c⟩:=qy_ h
 have h1:(g2_ s).natAbs=ao_ (a++b)*10 ^ (20-b.length):=by
  rw[sr_ c]
  cases e
  ·exact st_ false _
  ·exact st_ true _
 rw[h1];have h2:=xb_ (a++b) (by rw[List.all_append,c.da,c.db];rfl);have d:ao_ (a++b)*10 ^ (20-b.length)<10 ^ (a++b).length*10 ^ (20-b.length):=Nat.mul_lt_mul_of_pos_right h2 (Nat.pow_pos (by decide));rw[<-Nat.pow_add]at d;refine Nat.lt_of_lt_of_le d (Nat.pow_le_pow_right (by decide) ?_);rw[List.length_append];have:=c.la;have:=c.lb;omega
theorem E0_ {s:ByteArray} {f:Nat->Nat} (h:cr_ s=true) (a:oq_ s f):pv f 16<10 ^ 60:=by have h1:=xf_ h;rw[a.2,st_]at h1;exact h1
theorem Kv_ {x y:Nat} (h1:x<10 ^ 60) (h2:y<10 ^ 60):x+y<bW ^ 16:=by
 have f:∀x y p q r:Nat,x<p->y<p->q=p*10->q<=r->x+y<r:=λx y p q r a b c d=>by omega
 refine f x y (10 ^ 60) (10 ^ 61) _ h1 h2 (Nat.pow_succ ..) ?_;have e:bW ^ 16=10 ^ (9*16):=(Nat.pow_mul 10 9 16).symm;rw[e];exact Nat.pow_le_pow_right (by decide) (by decide)
theorem xg_ (n m:Bool) (f:Nat->Nat):(S_ n f).setIfInBounds 0 (.bool m)=S_ m f:=by
 apply Array.ext_getElem?;intro j
 cases j with
 | zero=>rw[Array.getElem?_setIfInBounds,if_pos rfl,if_pos (by rw[t_];decide),fi_]
 | succ j=>
  rw[Array.getElem?_setIfInBounds,if_neg (by omega)];unfold S_;rw[Array.getElem?_append_right (by simp),Array.getElem?_append_right (by simp)];rfl
theorem Id_ {s t:ByteArray} {a:Bool} {p:Nat} (d:sgV a p=g2_ s + -g2_ t):gc_ s t=if p=0 then 0 else if a=true then -1 else 1:=by
 unfold gc_;by_cases h0:p=0
 ·rw[if_pos h0];have:=(Ef_ (b:=a)).2 h0;rw[if_neg (by omega),if_neg (by omega)]
 ·rw[if_neg h0]
  cases a with
  | true=>
   have c:sgV true p = -((p:Nat):Int):=rfl;rw[if_pos rfl,if_pos (by omega)]
  | false=>
   have c:sgV false p=((p:Nat):Int):=rfl;rw[if_neg (by omega),if_pos (by omega)];rfl
theorem Ie_ {s t:ByteArray} {f g h:Nat->Nat} {a:Bool} (c:oq_ s f) (b:oq_ t g) (d:sgV a (pv h 16)=sgV (di_ s) (pv f 16)+sgV (!di_ t) (pv g 16)) :
    gc_ s t=if pv h 16=0 then 0 else if a=true then -1 else 1:=
 Id_ (d.trans (by rw[H6_,<-c.2,<-b.2]))
def y6_ (s t:ByteArray) (w:World) (e:Ending) (w':World):Prop:=e = .returned (.int .i64 (gc_ s t))/\Below w.heap.size w w'
theorem us_ (W:World):(Instr.build 291 #[]).run Tryz.prog W = .ok (.agg ur_) W:=run_build W _ _ _ (by kernel_rfl)
theorem gi_ (s t:ByteArray) (hs:cr_ s=true) (ht:cr_ t=true) (w:World) (r:F_ w) :
    Calls Tryz.prog 212 #[.string s,.string t] w (y6_ s t w):=by
 have b3:=q_ (Ev_ s t hs ht w r);have a2:=q_ (And.intro hs ht);clear hs ht r;go_enter Tryz.func212,Tryz.ntmps212
 go_wp2_with fail;refine b3.o.mono ?_;rintro e w2 ⟨f,g,rfl,a4,X,r⟩;have M:=q_ a4;have HF:=q_ X;have HG:=q_ r;obtain⟨n1,a6⟩:=a_ (di_ s);obtain⟨n,a3⟩:=a_ (di_ t);have ab:=q_ (λ(W:World)=>Ex_ n1 (!n) f g X.1 r.1 (Kv_ (E0_ a2.o.1 X) (E0_ a2.o.2 r)) W);rw[a6.o,a3.o];obtain⟨F,k⟩:=me_ n1 f;obtain⟨A,j⟩:=me_ n g;obtain⟨Y,R⟩:=me_ (!n) g;rw[k.o,j.o];rw[k.o,R.o]at ab;have aa:=q_ (show (Tryz.prog.info? 293).map (·.size)=some F.size from by rw[<-k.o,t_];kernel_rfl);have b0:=q_ (show (Tryz.prog.info? 293).map (·.size)=some A.size from by rw[<-j.o,t_];kernel_rfl);have ad:=q_ (show (Tryz.prog.info? 293).map (·.size)=some Y.size from by rw[<-R.o,t_];kernel_rfl);have ap:=q_ (show F.all (·.oneCell')=true from by rw[<-k.o];exact ay_ _ _);have ay:=q_ (show A.all (·.oneCell')=true from by rw[<-j.o];exact ay_ _ _);have az:=q_ (show F.size=bo_.size from by rw[<-k.o,t_];rfl);have aw:=q_ (show A.size=bo_.size from by rw[<-j.o,t_];rfl);have ae:=q_ (show A.setIfInBounds 0 (.bool (!n))=Y from by rw[<-j.o,<-R.o];exact xg_ _ _ _);have au:=q_ (show A[0]?=some (.bool n) from by rw[<-j.o];exact fi_ _ _);obtain⟨z,E⟩:=a_ w2.heap.size;obtain⟨w3,y⟩:=a_ ((w2.alloc (.cells #[.bool false,.int .u64 0,.int .u64 0,.int .u64 0,.int .u64 0,.int .u64 0,.int .u64 0,.int .u64 0,.int .u64 0,.int .u64 0,.int .u64 0,.int .u64 0,.int .u64 0,.int .u64 0,.int .u64 0,.int .u64 0,.int .u64 0] 293)).alloc (.cells #[.bool false,.int .u64 0,.int .u64 0,.int .u64 0,.int .u64 0,.int .u64 0,.int .u64 0,.int .u64 0,.int .u64 0,.int .u64 0,.int .u64 0,.int .u64 0,.int .u64 0,.int .u64 0,.int .u64 0,.int .u64 0,.int .u64 0] 293));have aq:=q_ (show w3.heap[z]?=some (cz_ bo_) from by rw[<-y.o,<-E.o];exact heap_alloc2_old w2 _ _);have af:=q_ (show w3.heap[z+1]?=some (cz_ bo_) from by rw[<-y.o,<-E.o];exact heap_alloc2_new w2 _ _);have O:=q_ (show Below w2.heap.size w2 w3 from by rw[<-y.o];exact L_ _ _ _);have c:=q_ (And.intro y.o E.o);clear a4 X r
 go_upto_region 2 with (first
  | ((with_reducible refine z_ 5 ?_);refine r_ rfl 293 _ _ rfl w2.heap.size bo_ F 293 rfl rfl (by have h:=aq.o;rw[<-c.o.1,<-c.o.2]at h;exact h) az.o aa.o ap.o ?_;intro w4 P i)
  | ((with_reducible refine z_ 6 ?_);refine r_ rfl 293 _ _ rfl (w2.heap.size+1) bo_ A 293 rfl rfl (by have h:=af.o;rw[<-c.o.1,<-c.o.2]at h;exact i.heap h (show ¬w2.heap.size+1=w2.heap.size by omega)) aw.o b0.o ay.o ?_;intro w5 I v))
 rw[c.o.2]at P I v ⊢;rw[c.o.1]at i;rw[c.o.2]at i;have aj:=q_ (v.heap P (show ¬z=z+1 by omega));have T:=q_ I;have ag:=q_ (M.o.trans ((O.o.trans ((i.below (B:=w2.heap.size) (λb _ h=>by have h:b=z:=h;have:=E.o;omega) O.o.size).trans (v.below (B:=w2.heap.size) (λb _ h=>by have h:b=z+1:=h;have:=E.o;omega) (Nat.le_trans O.o.size i.size)))).mono M.o.size));clear P I i v;have y0:w5.cell? ⟨z+1,0,none⟩=some (.bool n):=(cell_of_row _ _ _ _ _ _ T.o).trans au.o;have yf:w5.frozen? ⟨z+1,0,none⟩=false:=frozen_of_row _ _ _ _ _ T.o;go_upto_region 5 with fail;obtain⟨w6,x⟩:=a_ (w5.setCell ⟨z+1,0,none⟩ (.bool (!n)));have ar:=q_ (show w6.heap[z]?=some (cz_ F) from by rw[<-x.o,heap_setCell_other _ _ _ _ (show z≠z+1 by omega)];exact aj.o);have b2:=q_ (show w6.heap[z+1]?=some (cz_ Y) from by rw[<-x.o,<-ae.o];exact heap_setCell_same _ _ _ _ _ _ T.o);have a0:=q_ (show Below w.heap.size w w6 from by rw[<-x.o];exact ag.o.setCell (by show w.heap.size<=z+1;have:=M.o.size;have:=E.o;omega) _);have am:=q_ (p_ ar.o);have ac:=q_ (p_ b2.o);rw[x.o];clear y0 yf
 go_wp2_with (first
  | ((with_reducible refine e_ (some 22) ?_);refine A_ rfl 293 _ rfl z 0 rfl F _ (am.o) Tryz.underlying293 rfl aa.o ?_)
  | ((with_reducible refine e_ (some 23) ?_);refine A_ rfl 293 _ rfl (z+1) 0 rfl Y _ (ac.o) Tryz.underlying293 rfl ad.o ?_))
 refine (ab.o w6).mono ?_;rintro e a ⟨N,h,rfl,a8,hh,hv⟩;have u:=q_ (show gc_ s t=if pv h 16=0 then 0 else if N=true then -1 else 1 from Ie_ HF.o HG.o (by rw[a6.o,a3.o];exact hv))
 have Z:=q_ (a0.o.trans (a8.mono a0.o.size));obtain⟨d,D⟩:=me_ N h;obtain⟨G,V⟩:=q8_ h;obtain⟨q,a5⟩:∃q,EqU q (λ_=>0):=q8_ _;have L:=q_ (λW:World=>(show (Instr.build 291 #[]).run Tryz.prog W = .ok (.agg q) W from by rw[<-a5.o];exact us_ W));have hq:∀W,(binOp .eql 291 (.agg G) (.agg q)).run Tryz.prog W = .ok (.bool (decide (pv h 16=0))) W:=λW=>by rw[<-V.o,<-a5.o];exact Ez_ h W
 obtain⟨p,Hp⟩:=a_ (pv h 16);rw[Hp.o]at hq u;rw[D.o];have ai:=q_ (show (Tryz.prog.info? 293).map (·.size)=some d.size from by rw[<-D.o,t_];kernel_rfl);have av:=q_ (show d.all (·.oneCell')=true from by rw[<-D.o];exact ay_ _ _);have b1:=q_ (show d.size=bo_.size from by rw[<-D.o,t_];rfl);have J:=q_ (show (Tryz.prog.info? 291).map (·.size)=some G.size from by rw[<-V.o,W_];kernel_rfl);have ah:=q_ (λ(W:World) (hW:W.heap[a.heap.size]?=some (cz_ d))=>(show W.rangeAt a.heap.size 1 G.toList/\W.cell? ⟨a.heap.size,0,none⟩=some (.bool N) from by rw[<-D.o]at hW;rw[<-V.o];exact⟨f1_ (gh_ hW),j2_ hW⟩));have b4:=Ku_;have ak:=q_ (show (a.alloc (.cells #[.bool false,.int .u64 0,.int .u64 0,.int .u64 0,.int .u64 0,.int .u64 0,.int .u64 0,.int .u64 0,.int .u64 0,.int .u64 0,.int .u64 0,.int .u64 0,.int .u64 0,.int .u64 0,.int .u64 0,.int .u64 0,.int .u64 0] 293)).heap[a.heap.size]?=some (cz_ bo_) from heap_alloc_new a _);clear a8 hh hv Hp D
 go_upto_region 6 with (first
  | ((with_reducible refine z_ 8 ?_);refine r_ rfl 293 _ _ rfl a.heap.size bo_ d 293 rfl rfl ak.o b1.o ai.o av.o ?_;intro w8 a1 a9))
 have l:=q_ (ah.o w8 a1);have S:=q_ (Z.o.trans (((Below.refl a.heap.size a).alloc (Nat.le_refl _) _ |>.trans (a9.below (B:=a.heap.size) (λb _ h=>by have h:b=a.heap.size:=h;omega) (by simp))).mono Z.o.size));have n0:w8.cell? ⟨a.heap.size,0,none⟩=some (.bool N):=l.o.2;obtain⟨z8,ao⟩:=a_ a.heap.size;rw[ao.o]at l n0 ⊢;clear a1 a9;by_cases C:p=0
 ·have U:=q_ (show (0:Int)=gc_ s t from by rw[u.o,if_pos C]);have m:decide (p=0)=true:=decide_eq_true C;rw[m]at hq;clear C m
  go_wp2_with (first
   | ((with_reducible refine e_ (some 27) ?_);refine A_ rfl 291 _ rfl z8 1 rfl G _ (l.o.1) Tryz.underlying291 rfl J.o ?_)
   | ((with_reducible refine e_ (some 28) ?_);refine O_ rfl 291 _ rfl #[] (by kernel_rfl) (.agg q) (L.o _) ?_))
  go_ret;exact⟨by rw[U.o];rfl,S.o⟩
 ·have m:decide (p=0)=false:=decide_eq_false C;rw[m]at hq;have a7:=q_ C;clear C m
  cases N with
  | true=>
   have U:=q_ (show (-1:Int)=gc_ s t from by rw[u.o,if_neg a7.o,if_pos rfl])
   go_wp2_with (first
    | ((with_reducible refine e_ (some 27) ?_);refine A_ rfl 291 _ rfl z8 1 rfl G _ (l.o.1) Tryz.underlying291 rfl J.o ?_)
    | ((with_reducible refine e_ (some 28) ?_);refine O_ rfl 291 _ rfl #[] (by kernel_rfl) (.agg q) (L.o _) ?_))
   go_ret;exact⟨by rw[U.o];rfl,S.o⟩
  | false=>
   have U:=q_ (show (1:Int)=gc_ s t from by rw[u.o,if_neg a7.o,if_neg Bool.false_ne_true])
   go_wp2_with (first
    | ((with_reducible refine e_ (some 27) ?_);refine A_ rfl 291 _ rfl z8 1 rfl G _ (l.o.1) Tryz.underlying291 rfl J.o ?_)
    | ((with_reducible refine e_ (some 28) ?_);refine O_ rfl 291 _ rfl #[] (by kernel_rfl) (.agg q) (L.o _) ?_))
   go_ret;exact⟨by rw[U.o];rfl,S.o⟩
def fs_ (a b:h_) (w:World) (e:Ending) (w':World):Prop:=e = .returned (.int .i64 (gc_ (ac_ a) (ac_ b)))/\Below w.heap.size w w'
theorem If_ (a b:h_) (sa sb:Value) (w:World) (f:a.kind=2) (hb:b.kind=2) (d:ag_ a) (g:ag_ b) :
    Calls Tryz.prog 129 #[.agg (c_ a sa),.agg (c_ b sb)] w (fs_ a b w):=by
 have c:=q_ (λW:World=>Ao_ a.num b.num W);have i:=q_ (show gc_ (ac_ a) (ac_ b)=ce_ a.num b.num from by unfold ac_;rw[if_pos f,if_pos hb,Ad_ d.n0 d.n1 g.n0 g.n1];rfl);unfold fs_;rw[i.o];clear i d g;obtain⟨v,h⟩:=a_ (ce_ a.num b.num);rw[h.o]at c ⊢;clear h
 cases a with
 | mk n r n1 y t q=>
 cases b with
 | mk s p x z u A=>
 unfold c_;simp only[h_.kind,h_.truth,h_.num,h_.text,h_.extra]at c f hb ⊢;subst f;subst hb;have j:=q_ (λk l:Obj=>L_ w k l);go_enter Tryz.func129,Tryz.ntmps129
 go_wp2_with fail;refine (c.o _).mono ?_;rintro e m ⟨rfl,rfl⟩;go_wp2_with fail;go_ret;exact⟨rfl,j.o _ _⟩
theorem Ig_ (a b:h_) (sa sb:Value) (w:World) (ha:a.kind=2) (hb:b.kind=3) (v:ag_ a) (x:ag_ b) (t:F_ w) (C:as_ w) :
    Calls Tryz.prog 129 #[.agg (c_ a sa),.agg (c_ b sb)] w (fs_ a b w):=by
 have u:=q_ (λ(W:World) (r:Below w.heap.size w W)=>eq_ a sa v.n0 v.n1 v.ts W (f_ t r) (n_ C r));have s:=q_ (λ(W:World) (r:Below w.heap.size w W)=>eq_ b sb x.n0 x.n1 x.ts W (f_ t r) (n_ C r));have k:=q_ (λ(W:World) (r:Below w.heap.size w W)=>gi_ (ac_ a) (ac_ b) (dr_ v.n0 v.n1) (dr_ x.n0 x.n1) W (f_ t r));unfold fs_;unfold y6_ at k;unfold un_ at u s;obtain⟨X1,J⟩:=a_ (ac_ a);obtain⟨X2,M⟩:=a_ (ac_ b);rw[J.o]at u k ⊢;rw[M.o]at s k ⊢;obtain⟨c,Y⟩:=a_ (gc_ X1 X2);rw[Y.o]at k ⊢;clear Y J M;have D:(c_ a sa)[0]?=some (.int .i64 2):=by rw[<-ha];rfl
 have y:(c_ b sb)[0]?=some (.int .i64 3):=by rw[<-hb];rfl
 obtain⟨p,L⟩:=H_ a sa;obtain⟨g,I⟩:=H_ b sb;rw[L.o]at u D ⊢;rw[I.o]at s y ⊢;have Q1:=q_ L.size;have Q2:=q_ I.size;obtain⟨z,O⟩:=a_ w.heap.size;obtain⟨d,i⟩:=a_ ((w.alloc (.cells p 39)).alloc (.cells g 39));have q:=q_ (show Below w.heap.size w d from by rw[<-i.o];exact L_ w _ _);have j:=q_ (show d.heap[z]?=some (.cells p 39 (0,0)) from by rw[<-i.o,<-O.o];exact heap_alloc2_old w _ _);have l:=q_ (show d.heap[z+1]?=some (.cells g 39 (0,0)) from by rw[<-i.o,<-O.o];exact heap_alloc2_new w _ _);have p0:d.cell? ⟨z,0,none⟩=some (.int .i64 2):=(cell_of_row _ _ _ _ _ _ j.o).trans D;have q0:d.cell? ⟨z+1,0,none⟩=some (.int .i64 3):=(cell_of_row _ _ _ _ _ _ l.o).trans y;clear D y ha hb v x t C;go_enter Tryz.func129,Tryz.ntmps129
 go_upto_region 1 with fail;rw[i.o,O.o];clear i;go_upto_region 3 with fail;have s1:=q_ (show d.drew.heap[z]?=some (.cells p 39 (0,0))/\d.drew.heap[z+1]?=some (.cells g 39 (0,0)) from ⟨j.o,l.o⟩);have V:=q_ (show Below w.heap.size w d.drew from q.o.drew);refine wp_region_held_drew (S:=λP=>P.heap[z]?=some (.cells p 39 (0,0))/\P.heap[z+1]?=some (.cells g 39 (0,0))) (by kernel_rfl) s1.o λf=>?_;refine V_.o ?_;refine J_ 0 18 (.agg p) f (λw A=>?_) λf=>?_
 ·exact k_ (ap_ A.1 39 _ Tryz.underlying39 rfl (by rw[Q1.o];kernel_rfl))
 simp only[Act.put,aT,aZ,aS];refine J_ 2 20 (.agg g) f (λw A=>?_) λf=>?_
 ·exact k_ (ap_ A.2 39 _ Tryz.underlying39 rfl (by rw[Q2.o];kernel_rfl))
 simp only[Act.put,aT,aZ,aS];refine tkC 1 λK n=>?_;change Oper.wp _ ⟨some 19,_,_,_,_,_⟩ _ _ _ _;go_simp;refine (u.o d.drew V.o).mono ?_;rintro e E ⟨rfl,F⟩;have m:=q_ (show Below d.heap.size d E from aa_ F);have Z:=q_ (q.o.trans (m.o.mono q.o.size));have T:=q_ (show E.heap[z]?=some (.cells p 39 (0,0))/\E.heap[z+1]?=some (.cells g 39 (0,0)) from ⟨(m.o.block z (b_ j.o)).trans j.o,(m.o.block (z+1) (b_ l.o)).trans l.o⟩);clear F;dsimp only;refine n.out _ _ T.o λf=>?_;clear n K;(try simp only[Act.put,aT,aZ,aS]);refine tkC 3 λK n=>?_;change Oper.wp _ ⟨some 21,_,_,_,_,_⟩ _ _ _ _;go_simp;refine (s.o E Z.o).mono ?_;rintro e w5 ⟨rfl,N⟩;have h:=q_ (m.o.trans (N.mono m.o.size));have R:=q_ (q.o.trans (h.o.mono q.o.size));have a0:=q_ (show w5.heap[z]?=some (.cells p 39 (0,0))/\w5.heap[z+1]?=some (.cells g 39 (0,0)) from ⟨(h.o.block z (b_ j.o)).trans j.o,(h.o.block (z+1) (b_ l.o)).trans l.o⟩);clear N;dsimp only;refine n.out _ _ a0.o λf=>?_;clear n K;(try simp only[Act.put,aT,aZ,aS]);refine tkC 4 λK n=>?_;change Oper.wp _ ⟨some 22,_,_,_,_,_⟩ _ _ _ _;go_simp;refine (k.o w5 R.o).mono ?_;rintro e w6 ⟨rfl,G⟩;have B:=q_ (h.o.trans (G.mono h.o.size));have U:=q_ (q.o.trans (B.o.mono q.o.size));have X:=q_ (show w6.heap[z]?=some (.cells p 39 (0,0))/\w6.heap[z+1]?=some (.cells g 39 (0,0)) from ⟨(B.o.block z (b_ j.o)).trans j.o,(B.o.block (z+1) (b_ l.o)).trans l.o⟩);clear G;dsimp only;refine n.out _ _ X.o λf=>?_;clear n K;(try simp only[Act.put,aT,aZ,aS]);refine v_ 5 4 (.int .i64 c) f λf=>?_;simp only[Act.put,aT,aZ,aS];refine⟨wpAnyH_done (by kernel_rfl) ?_ _⟩;clear f;go_wp2_with fail;go_ret;exact⟨rfl,U.o⟩
theorem Ih_ (a b:h_) (sa sb:Value) (w:World) (ha:a.kind=3) (hb:b.kind=2) (v:ag_ a) (x:ag_ b) (t:F_ w) (C:as_ w) :
    Calls Tryz.prog 129 #[.agg (c_ a sa),.agg (c_ b sb)] w (fs_ a b w):=by
 have u:=q_ (λ(W:World) (r:Below w.heap.size w W)=>eq_ a sa v.n0 v.n1 v.ts W (f_ t r) (n_ C r));have s:=q_ (λ(W:World) (r:Below w.heap.size w W)=>eq_ b sb x.n0 x.n1 x.ts W (f_ t r) (n_ C r));have k:=q_ (λ(W:World) (r:Below w.heap.size w W)=>gi_ (ac_ a) (ac_ b) (dr_ v.n0 v.n1) (dr_ x.n0 x.n1) W (f_ t r));unfold fs_;unfold y6_ at k;unfold un_ at u s;obtain⟨X1,J⟩:=a_ (ac_ a);obtain⟨X2,M⟩:=a_ (ac_ b);rw[J.o]at u k ⊢;rw[M.o]at s k ⊢;obtain⟨c,Y⟩:=a_ (gc_ X1 X2);rw[Y.o]at k ⊢;clear Y J M;have D:(c_ a sa)[0]?=some (.int .i64 3):=by rw[<-ha];rfl
 have y:(c_ b sb)[0]?=some (.int .i64 2):=by rw[<-hb];rfl
 obtain⟨p,L⟩:=H_ a sa;obtain⟨g,I⟩:=H_ b sb;rw[L.o]at u D ⊢;rw[I.o]at s y ⊢;have Q1:=q_ L.size;have Q2:=q_ I.size;obtain⟨z,O⟩:=a_ w.heap.size;obtain⟨d,i⟩:=a_ ((w.alloc (.cells p 39)).alloc (.cells g 39));have q:=q_ (show Below w.heap.size w d from by rw[<-i.o];exact L_ w _ _);have j:=q_ (show d.heap[z]?=some (.cells p 39 (0,0)) from by rw[<-i.o,<-O.o];exact heap_alloc2_old w _ _);have l:=q_ (show d.heap[z+1]?=some (.cells g 39 (0,0)) from by rw[<-i.o,<-O.o];exact heap_alloc2_new w _ _);have p0:d.cell? ⟨z,0,none⟩=some (.int .i64 3):=(cell_of_row _ _ _ _ _ _ j.o).trans D;have q0:d.cell? ⟨z+1,0,none⟩=some (.int .i64 2):=(cell_of_row _ _ _ _ _ _ l.o).trans y;clear D y ha hb v x t C;go_enter Tryz.func129,Tryz.ntmps129
 go_upto_region 1 with fail;rw[i.o,O.o];clear i;go_upto_region 3 with fail;have s1:=q_ (show d.drew.heap[z]?=some (.cells p 39 (0,0))/\d.drew.heap[z+1]?=some (.cells g 39 (0,0)) from ⟨j.o,l.o⟩);have V:=q_ (show Below w.heap.size w d.drew from q.o.drew);refine wp_region_held_drew (S:=λP=>P.heap[z]?=some (.cells p 39 (0,0))/\P.heap[z+1]?=some (.cells g 39 (0,0))) (by kernel_rfl) s1.o λf=>?_;refine V_.o ?_;refine J_ 0 18 (.agg p) f (λw A=>?_) λf=>?_
 ·exact k_ (ap_ A.1 39 _ Tryz.underlying39 rfl (by rw[Q1.o];kernel_rfl))
 simp only[Act.put,aT,aZ,aS];refine J_ 2 20 (.agg g) f (λw A=>?_) λf=>?_
 ·exact k_ (ap_ A.2 39 _ Tryz.underlying39 rfl (by rw[Q2.o];kernel_rfl))
 simp only[Act.put,aT,aZ,aS];refine tkC 1 λK n=>?_;change Oper.wp _ ⟨some 19,_,_,_,_,_⟩ _ _ _ _;go_simp;refine (u.o d.drew V.o).mono ?_;rintro e E ⟨rfl,F⟩;have m:=q_ (show Below d.heap.size d E from aa_ F);have Z:=q_ (q.o.trans (m.o.mono q.o.size));have T:=q_ (show E.heap[z]?=some (.cells p 39 (0,0))/\E.heap[z+1]?=some (.cells g 39 (0,0)) from ⟨(m.o.block z (b_ j.o)).trans j.o,(m.o.block (z+1) (b_ l.o)).trans l.o⟩);clear F;dsimp only;refine n.out _ _ T.o λf=>?_;clear n K;(try simp only[Act.put,aT,aZ,aS]);refine tkC 3 λK n=>?_;change Oper.wp _ ⟨some 21,_,_,_,_,_⟩ _ _ _ _;go_simp;refine (s.o E Z.o).mono ?_;rintro e w5 ⟨rfl,N⟩;have h:=q_ (m.o.trans (N.mono m.o.size));have R:=q_ (q.o.trans (h.o.mono q.o.size));have a0:=q_ (show w5.heap[z]?=some (.cells p 39 (0,0))/\w5.heap[z+1]?=some (.cells g 39 (0,0)) from ⟨(h.o.block z (b_ j.o)).trans j.o,(h.o.block (z+1) (b_ l.o)).trans l.o⟩);clear N;dsimp only;refine n.out _ _ a0.o λf=>?_;clear n K;(try simp only[Act.put,aT,aZ,aS]);refine tkC 4 λK n=>?_;change Oper.wp _ ⟨some 22,_,_,_,_,_⟩ _ _ _ _;go_simp;refine (k.o w5 R.o).mono ?_;rintro e w6 ⟨rfl,G⟩;have B:=q_ (h.o.trans (G.mono h.o.size));have U:=q_ (q.o.trans (B.o.mono q.o.size));have X:=q_ (show w6.heap[z]?=some (.cells p 39 (0,0))/\w6.heap[z+1]?=some (.cells g 39 (0,0)) from ⟨(B.o.block z (b_ j.o)).trans j.o,(B.o.block (z+1) (b_ l.o)).trans l.o⟩);clear G;dsimp only;refine n.out _ _ X.o λf=>?_;clear n K;(try simp only[Act.put,aT,aZ,aS]);refine v_ 5 4 (.int .i64 c) f λf=>?_;simp only[Act.put,aT,aZ,aS];refine⟨wpAnyH_done (by kernel_rfl) ?_ _⟩;clear f;go_wp2_with fail;go_ret;exact⟨rfl,U.o⟩
theorem Ii_ (a b:h_) (sa sb:Value) (w:World) (ha:a.kind=3) (hb:b.kind=3) (v:ag_ a) (x:ag_ b) (t:F_ w) (C:as_ w) :
    Calls Tryz.prog 129 #[.agg (c_ a sa),.agg (c_ b sb)] w (fs_ a b w):=by
 have u:=q_ (λ(W:World) (r:Below w.heap.size w W)=>eq_ a sa v.n0 v.n1 v.ts W (f_ t r) (n_ C r));have s:=q_ (λ(W:World) (r:Below w.heap.size w W)=>eq_ b sb x.n0 x.n1 x.ts W (f_ t r) (n_ C r));have k:=q_ (λ(W:World) (r:Below w.heap.size w W)=>gi_ (ac_ a) (ac_ b) (dr_ v.n0 v.n1) (dr_ x.n0 x.n1) W (f_ t r));unfold fs_;unfold y6_ at k;unfold un_ at u s;obtain⟨X1,J⟩:=a_ (ac_ a);obtain⟨X2,M⟩:=a_ (ac_ b);rw[J.o]at u k ⊢;rw[M.o]at s k ⊢;obtain⟨c,Y⟩:=a_ (gc_ X1 X2);rw[Y.o]at k ⊢;clear Y J M;have D:(c_ a sa)[0]?=some (.int .i64 3):=by rw[<-ha];rfl
 have y:(c_ b sb)[0]?=some (.int .i64 3):=by rw[<-hb];rfl
 obtain⟨p,L⟩:=H_ a sa;obtain⟨g,I⟩:=H_ b sb;rw[L.o]at u D ⊢;rw[I.o]at s y ⊢;have Q1:=q_ L.size;have Q2:=q_ I.size;obtain⟨z,O⟩:=a_ w.heap.size;obtain⟨d,i⟩:=a_ ((w.alloc (.cells p 39)).alloc (.cells g 39));have q:=q_ (show Below w.heap.size w d from by rw[<-i.o];exact L_ w _ _);have j:=q_ (show d.heap[z]?=some (.cells p 39 (0,0)) from by rw[<-i.o,<-O.o];exact heap_alloc2_old w _ _);have l:=q_ (show d.heap[z+1]?=some (.cells g 39 (0,0)) from by rw[<-i.o,<-O.o];exact heap_alloc2_new w _ _);have p0:d.cell? ⟨z,0,none⟩=some (.int .i64 3):=(cell_of_row _ _ _ _ _ _ j.o).trans D;have q0:d.cell? ⟨z+1,0,none⟩=some (.int .i64 3):=(cell_of_row _ _ _ _ _ _ l.o).trans y;clear D y ha hb v x t C;go_enter Tryz.func129,Tryz.ntmps129
 go_upto_region 1 with fail;rw[i.o,O.o];clear i;go_upto_region 3 with fail;have s1:=q_ (show d.drew.heap[z]?=some (.cells p 39 (0,0))/\d.drew.heap[z+1]?=some (.cells g 39 (0,0)) from ⟨j.o,l.o⟩);have V:=q_ (show Below w.heap.size w d.drew from q.o.drew);refine wp_region_held_drew (S:=λP=>P.heap[z]?=some (.cells p 39 (0,0))/\P.heap[z+1]?=some (.cells g 39 (0,0))) (by kernel_rfl) s1.o λf=>?_;refine V_.o ?_;refine J_ 0 18 (.agg p) f (λw A=>?_) λf=>?_
 ·exact k_ (ap_ A.1 39 _ Tryz.underlying39 rfl (by rw[Q1.o];kernel_rfl))
 simp only[Act.put,aT,aZ,aS];refine J_ 2 20 (.agg g) f (λw A=>?_) λf=>?_
 ·exact k_ (ap_ A.2 39 _ Tryz.underlying39 rfl (by rw[Q2.o];kernel_rfl))
 simp only[Act.put,aT,aZ,aS];refine tkC 1 λK n=>?_;change Oper.wp _ ⟨some 19,_,_,_,_,_⟩ _ _ _ _;go_simp;refine (u.o d.drew V.o).mono ?_;rintro e E ⟨rfl,F⟩;have m:=q_ (show Below d.heap.size d E from aa_ F);have Z:=q_ (q.o.trans (m.o.mono q.o.size));have T:=q_ (show E.heap[z]?=some (.cells p 39 (0,0))/\E.heap[z+1]?=some (.cells g 39 (0,0)) from ⟨(m.o.block z (b_ j.o)).trans j.o,(m.o.block (z+1) (b_ l.o)).trans l.o⟩);clear F;dsimp only;refine n.out _ _ T.o λf=>?_;clear n K;(try simp only[Act.put,aT,aZ,aS]);refine tkC 3 λK n=>?_;change Oper.wp _ ⟨some 21,_,_,_,_,_⟩ _ _ _ _;go_simp;refine (s.o E Z.o).mono ?_;rintro e w5 ⟨rfl,N⟩;have h:=q_ (m.o.trans (N.mono m.o.size));have R:=q_ (q.o.trans (h.o.mono q.o.size));have a0:=q_ (show w5.heap[z]?=some (.cells p 39 (0,0))/\w5.heap[z+1]?=some (.cells g 39 (0,0)) from ⟨(h.o.block z (b_ j.o)).trans j.o,(h.o.block (z+1) (b_ l.o)).trans l.o⟩);clear N;dsimp only;refine n.out _ _ a0.o λf=>?_;clear n K;(try simp only[Act.put,aT,aZ,aS]);refine tkC 4 λK n=>?_;change Oper.wp _ ⟨some 22,_,_,_,_,_⟩ _ _ _ _;go_simp;refine (k.o w5 R.o).mono ?_;rintro e w6 ⟨rfl,G⟩;have B:=q_ (h.o.trans (G.mono h.o.size));have U:=q_ (q.o.trans (B.o.mono q.o.size));have X:=q_ (show w6.heap[z]?=some (.cells p 39 (0,0))/\w6.heap[z+1]?=some (.cells g 39 (0,0)) from ⟨(B.o.block z (b_ j.o)).trans j.o,(B.o.block (z+1) (b_ l.o)).trans l.o⟩);clear G;dsimp only;refine n.out _ _ X.o λf=>?_;clear n K;(try simp only[Act.put,aT,aZ,aS]);refine v_ 5 4 (.int .i64 c) f λf=>?_;simp only[Act.put,aT,aZ,aS];refine⟨wpAnyH_done (by kernel_rfl) ?_ _⟩;clear f;go_wp2_with fail;go_ret;exact⟨rfl,U.o⟩
theorem E1_ (a b:h_) (sa sb:Value) (w:World) (c:a.kind=2\/a.kind=3) (hb:b.kind=2\/b.kind=3) (f:ag_ a) (g:ag_ b) (e:F_ w) (d:as_ w) :
    Calls Tryz.prog 129 #[.agg (c_ a sa),.agg (c_ b sb)] w (fs_ a b w):=by
 rcases c with c | c
 ·rcases hb with hb | hb
  ·exact If_ a b sa sb w c hb f g
  ·exact Ig_ a b sa sb w c hb f g e d
 ·rcases hb with hb | hb
  ·exact Ih_ a b sa sb w c hb f g e d
  ·exact Ii_ a b sa sb w c hb f g e d
end Go.Proofs.YtefhfadjajcmkaaGreatDoor
