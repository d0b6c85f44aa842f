/- 'pairs': properties in memory of their own, sorted by their keys. -/
import Derived.Test.YtefhfadjajcmkaaGreatDoorK6
import Derived.Test.YtefhfadjajcmkaaGreatDoorGZ
import Derived.Lib.Bytealg
set_option linter.unusedVariables false
set_option linter.unusedSimpArgs false
set_option maxRecDepth 100000
set_option maxHeartbeats 64000000
namespace Go.Proofs.YtefhfadjajcmkaaGreatDoor
open Bool renaming and_eq_true→YJ
open Go.Ending renaming returned→XW
open Go.RowKit.Below renaming refl→XV
open Go.RowKit renaming Below→XU
open Nat renaming le_refl→XJ,lt_of_lt_of_le→XY,le_trans→YK
open Go.Obj renaming cells→XX
open List renaming getElem?_eq_getElem→XQ,mem_of_getElem?→YQ
open Tryz renaming prog→QW,underlying39→YZ
open Go renaming World→QV,Value→XZ
open Go.IntKind renaming i64→QU
open Option renaming some→QJ,none→QY
open Go.Lib renaming cell_of_heap→QX
open Go.Value renaming slice→QQ,string→QZ,int→QK,bool→XK,pointer→YX,tuple→YY
open Go.Lib (cell_of_heap)
section
open Go Go.RowKit Go.Maps
def kz_ (L:List e_) (w:QV) (e:Ending) (w':QV):Prop:=
 (¬(L.length<=65536/\L.all cx_=true)/\e = XW (YY #[.agg #[QQ QY 0 0,QQ QY 0 0],QK QU 20])/\XU w.heap.size w w') \/
 (L.length<=65536/\L.all cx_=true/\∃N E,e = XW (YY #[.agg #[N,E],QK QU 0])/\GrR w' (λb=>w.heap.size<=b/\b<w'.heap.size) (a3_ (au_ (s_ (ae_ 0)) L)) (.agg #[N,E])/\XU w.heap.size w w')
theorem LdP.app {α : Type} {E:TypeId} {sz:Nat} {R:α -> Array XZ->Prop} {w c w':QV} {l d:List α} {v a:XZ} (h:LdP E sz R w l v c) (g:cw_ E sz R w' (l++d) a) (f:c.grownBy w' v.ownBlock) (i:a.ownBlock=v.ownBlock\/a.ownBlock=QJ c.heap.size):LdP E sz R w (l++d) a w':=by
 have ht:=Turn.of_grown f;refine⟨np_ h.hb ht (λb hb=>h.ow b hb.symm),g,λb hb=>?_⟩;rcases i with e | e
 ·rw[e]at hb;exact h.ow b hb
 ·rw[e]at hb;injection hb with hb;rw[<-hb];exact h.hb.size
theorem zj_ (T:List e_) (t:e_):d3_ (T++[t])=d3_ T++[t.s,t.o]:=by unfold d3_;rw[List.flatMap_append];simp
theorem m7_ (T:List e_):(d3_ T).length=2*T.length:=by
 unfold d3_;induction T with
 | nil=>rfl
 | cons t r a=>rw[List.flatMap_cons,List.length_append,a,List.length_cons];simp;omega
theorem J_ (N E:XZ):(Tryz.prog.info? 54).map (·.size)=QJ (#[N,E]:Array XZ).size:=by kernel_rfl
theorem do_ (A:Option Addr) (n c:Nat) (B:Option Addr) (m d:Nat):(#[QQ A n c,QQ B m d]:Array XZ).all (·.oneCell')=true:=by kernel_rfl
theorem p8_ {T:List e_} {v:g_} (h:v∈d3_ T):∃t,t∈T/\(v=t.s\/v=t.o):=by unfold d3_ at h;obtain⟨t,ht,a⟩:=List.mem_flatMap.1 h;simp at a;exact⟨t,ht,a⟩
theorem bn_ (id:Int) (v:g_):(L_ id v).id=id:=by unfold L_;(repeat' split)<;>rfl
theorem sw_ (b:Int) (A:Option Addr) (n c:Nat) (B:Option Addr) (m d:Nat):∀u∈(#[QK QU b,QQ A n c,QQ B m d]:Array XZ).toList,u.oneCell'=true:=by intro u a;simp at a;rcases a with rfl | rfl | rfl<;>rfl
theorem zn_ {α : Type} {l:List α} {v:α} (h:v∈a0_ l):a0_ (l++[v])=a0_ l:=by rw[el_,if_pos h]
theorem zm_ {α : Type} {l:List α} {v:α} (h:v∉a0_ l):a0_ (l++[v])=a0_ l++[v]:=by rw[el_,if_neg h]
theorem zl_ {α : Type} (l:List α):(a0_ l).length<=l.length:=by
 have h:∀n,(a0_ (l.take n)).length<=n:=λn=>by
  induction n with
  | zero=>exact XJ _
  | succ n b=>
   by_cases a:n<l.length
   ·rw[List.take_succ_eq_append_getElem a,el_];split
    ·omega
    ·rw[List.length_append,List.length_singleton];omega
   ·rw[List.take_of_length_le (by omega)];rw[List.take_of_length_le (by omega)]at b;omega
 have:=h l.length;rwa [List.take_length]at this
theorem iz_ {op:Oper} {a:Act} {w:QV} {K:Act->QV->Prop} {Q:Exit->Act->QV->Prop} {x:Operand} {g j:Nat} {v:XZ} (b:op.op = .load 51 x) (c:a.eval x = .pointer (QJ ⟨g,j,QY⟩)) (d:w.cell? ⟨g,j,QY⟩=QJ v) (h:K (a.put op.dst v) w):op.wp QW a w K Q:=by unfold Oper.wp execOp;simp only[b,c];go_simp;exact h
theorem Kd_ (i a b:Int) (s:ByteArray) (w:QV):(Instr.build 74 #[(0,QK QU i),(1,QK QU a),(2,QK QU b),(3,QZ s)]).run QW w = .ok (.agg #[QK QU i,QK QU a,QK QU b,QZ s,QQ QY 0 0]) w:=by kernel_rfl
theorem Dt_ (i a b:Int) (s:ByteArray):∀u∈(#[QK QU i,QK QU a,QK QU b,QZ s,QQ none 0 0]:Array XZ).toList,u.oneCell'=true:=by intro u c;simp at c;rcases c with rfl | rfl | rfl | rfl | rfl<;>rfl
theorem Ni_ (w:QV):(Instr.makeMap 122 QY).run QW w = .ok (.map (QJ w.heap.size)) (w.alloc (.map #[] 0)):=by kernel_rfl
theorem If_ {P:Program} {b:Array Oper} {rest:List Oper} {op:Oper} {a:Act} {w:QV} {Q:Exit->Act->QV->Prop} (c:op.guard=QY) (ty:TypeId) (e:op.op = .makeMap ty QY) (m:Nat) (w':QV) (f:(Instr.makeMap ty QY).run P w = .ok (.map (QJ m)) w') (h:wpList P b Q rest (a.put op.dst (.map (QJ m))) w'):wpList P b Q (op::rest) a w:=
 wpList_plain c λ_ d=>by
  unfold Oper.wp execOp;simp only[e,Option.map_none,Sem.run_bind,Sem.run_pure,f,Result.andThen_ok];exact d _ _ h
theorem m9_ (L:List e_) (fa:∀t,t∈L->OkT t) (F:Nat->Prop) (A:Option Addr) (n0 cp:Nat) (w:QV) (hF:∀g,F g->g<w.heap.size) (h:SRd 18 TrR w F L A n0) (hn:n0<=1000000000) (dv:aa_ w) (dw:b4_ w) :
    Calls QW 25 #[QQ A n0 cp] w (kz_ L w):=by
 have HG:=q_ (λ(W:QV) (hb:XU w.heap.size w W)=>And.intro (k_ dv hb) (I_ dw hb));have el:=q_ (λ(W:QV) (hb:XU w.heap.size w W)=>Dl_ L fa F A n0 cp W (λb h=>XY (hF b h) hb.size) (h.under TrR.good hb hF) hn (k_ dv hb) (I_ dw hb));unfold k0_ at el;unfold kz_;clear h fa dv dw hF;obtain⟨z,HZ⟩:=a_ w.heap.size;obtain⟨w1,co⟩:=a_ (w.alloc (XX #[QQ QY 0 0,QQ QY 0 0] 54));have b3:=q_ (show XU w.heap.size w w1 from by rw[<-co.o];exact (XV _ _).alloc (XJ _) _);have bq:=q_ (show w1.heap[z]?=QJ (XX #[QQ QY 0 0,QQ QY 0 0] 54 (0,0)) from by rw[<-co.o,<-HZ.o];exact heap_alloc_new w _);go_enter Tryz.func25,Tryz.ntmps25
 go_upto_region 1 with fail;rw[co.o,HZ.o];clear co;go_wp2_with fail;refine (el.o w1 b3.o).mono ?_;rintro e w2 (⟨M,rfl,hb⟩ | ⟨bb,dr,c,rfl,hb,hs⟩)
 ·have b7:=q_ M;have bi:=q_ (b3.o.trans (hb.mono b3.o.size));have br:=q_ ((hb.block z (b_ bq.o)).trans bq.o);clear M hb;go_wp2_with ((with_reducible refine y_ 2 ?_);refine r_ rfl 54 _ _ rfl z (#[QQ QY 0 0,QQ QY 0 0]) (#[QQ QY 0 0,QQ QY 0 0]) 54 rfl rfl br.o rfl (J_ _ _) (do_ _ _ _ _ _ _) ?_;intro w3 gg gf)
  refine bodyPost_ret (v:=YY #[.agg #[QQ QY 0 0,QQ QY 0 0],QK QU 20]) (ck_ Tryz.results25 (g:=z) rfl gg _ Tryz.underlying54 rfl (J_ _ _) rfl) rfl (.inl ⟨b7.o,rfl,i_ bi.o gf (λb e=>by have e:b=z:=e;have h2:w.heap.size=z:=HZ.o;omega)⟩)
 ·have dh:=q_ (And.intro bb dr);have fi:=q_ hb;have bi:=q_ (b3.o.trans (hb.mono b3.o.size));have br:=q_ ((hb.block z (b_ bq.o)).trans bq.o);obtain⟨T,HT⟩:=a_ (au_ (s_ (ae_ 0)) L);rw[HT.o]at hs;have HS:=q_ hs;have b8:=q_ hs.scal;have cb:=q_ hs.fit;obtain⟨n,HN⟩:=a_ T.length;have b5:=q_ (show n<=65536 from by rw[<-HN.o];exact hs.len);clear hs hb bb dr;go_wp2_with fail;refine (J4_ HS.o (λb h=>h.2)).mono ?_;unfold Fa_;rintro e w3 ⟨v3,rfl,e1,hb⟩;obtain⟨A6,c6,rfl,e3⟩:=No_ e1;have fj:=q_ hb;have bj:=q_ (bi.o.trans (hb.mono bi.o.size));have ef:=q_ ((hb.block z (b_ br.o)).trans br.o);rw[HN.o]at e3 ⊢;have eq:=q_ (λ(W:QV) (hk:∀b,b<w3.heap.size->W.heap[b]?=w3.heap[b]?)=>e3.keep (w':=W) (ofP.good CTx) (λp hp=>World.cell?_of_block (hk p.block hp.2)));have eb:=q_ (λ(W:QV) (hb:XU w3.heap.size w3 W) b (h:b<w3.heap.size)=>hb.block b h);clear e1 hb e3 HS;have fy:=q_ (show LdP 39 6 CV6 w3 [] (QQ QY 0 0) w3 from LdP.start w3);go_wp2_with fail;go_loopw [34,7] (λe6 s7 wx=>∃k:Nat,k<=n/\e6 = QK QU (k:Nat)/\Q_ (LdP 39 6 CV6 w3 (d3_ (T.take k)) s7 wx)) (λe6 _ _=>n-(intOf e6).toNat)
  case atStart=>exact⟨0,by omega,rfl,fy⟩
  case round=>
   obtain⟨k,hk,rfl,hM⟩:=hrel;have ec:=q_ (bj.o.trans (hM.o.hb.mono bj.o.size));by_cases X:k<n
   ·have a1:(0:Int)<=k:=by omega
    have a2:(k:Int)<n:=by omega
    have bb:=b5.o;have fh:IntKind.i64.wrap ((k:Int)+1)=(k:Int)+1:=IntWalk.i64_in _ (by omega);clear bb;have ag:=q_ X;obtain⟨t,ht⟩:∃t,T[k]?=QJ t:=⟨_,XQ (by rw[HN.o];exact X)⟩;have df:=q_ ht;obtain⟨ad,C,eA,du,ak,hc,c7,ss,aj,ar⟩:=(eq.o wr (eb.o wr hM.o.hb)).at_ ht;subst eA;have bp:=q_ (show vh_ C t ss from ⟨ar.symm⟩);have bf:=q_ (λj (hj:j<C.size)=>(show wr.cell? ((ad.add (k*18)).add j)=C[j]? from by rw[add_of_add];exact hc j (by rw[ak]at hj;exact hj)));have bz:=q_ (ey_.trans (congrArg QJ ak.symm));have dq:=q_ (show C.all (·.oneCell')=true from h7_ (by rw[ar];exact cf_ t ss (λi hi=>by obtain⟨A,J,e⟩:=aj i hi;exact⟨A,0,J,e⟩)));obtain⟨A0,q0,e0⟩:=aj 0 (by omega);obtain⟨A2,q2,e2⟩:=aj 2 (by omega);obtain⟨u0,ap⟩:=v_ (t.get 0) (ss 0);obtain⟨u2,aq⟩:=v_ (t.get 2) (ss 2);have ac:=YQ ht;have g9:=q_ (show CV6 t.s u0 from ⟨(b8.o t ac).get 0,cb.o t ac 0,A0,q0,by rw[<-ap.o,e0];rfl⟩);have ga:=q_ (show CV6 t.o u2 from ⟨(b8.o t ac).get 2,cb.o t ac 2,A2,q2,by rw[<-aq.o,e2];rfl⟩);have SZ:=q_ (show C.size=(#[QK QU 0,XK false,QK QU 0,QZ ⟨#[]⟩,QZ ⟨#[]⟩,QQ QY 0 0,QK QU 0,XK false,QK QU 0,QZ ⟨#[]⟩,QZ ⟨#[]⟩,QQ QY 0 0,QK QU 0,XK false,QK QU 0,QZ ⟨#[]⟩,QZ ⟨#[]⟩,QQ QY 0 0]:Array XZ).size from ak);clear ht du ak hc c7 aj ar e0 e2 ac X hk;obtain⟨z9,di⟩:=a_ wr.heap.size;obtain⟨wa,U⟩:=a_ (wr.alloc (XX #[QK QU 0,XK false,QK QU 0,QZ ⟨#[]⟩,QZ ⟨#[]⟩,QQ QY 0 0,QK QU 0,XK false,QK QU 0,QZ ⟨#[]⟩,QZ ⟨#[]⟩,QQ QY 0 0,QK QU 0,XK false,QK QU 0,QZ ⟨#[]⟩,QZ ⟨#[]⟩,QQ QY 0 0] 41));have bl:=q_ (show XU wr.heap.size wr wa from by rw[<-U.o];exact (XV _ _).alloc (XJ _) _);have ao:=q_ (show wa.heap[z9]?=QJ (XX #[QK QU 0,XK false,QK QU 0,QZ ⟨#[]⟩,QZ ⟨#[]⟩,QQ QY 0 0,QK QU 0,XK false,QK QU 0,QZ ⟨#[]⟩,QZ ⟨#[]⟩,QQ QY 0 0,QK QU 0,XK false,QK QU 0,QZ ⟨#[]⟩,QZ ⟨#[]⟩,QQ QY 0 0] 41 (0,0)) from by rw[<-U.o,<-di.o];exact heap_alloc_new wr _)
    go_upto_region 9 with (first
     | ((with_reducible refine d_ (some 37) ?_);refine E_ (by rfl) 41 _ rfl rfl C _ bf.o Tryz.underlying41 rfl bz.o ?_)
     | ((with_reducible refine y_ 9 ?_);rw[U.o,di.o];refine r_ rfl 41 _ _ rfl z9 (#[QK QU 0,XK false,QK QU 0,QZ ⟨#[]⟩,QZ ⟨#[]⟩,QQ QY 0 0,QK QU 0,XK false,QK QU 0,QZ ⟨#[]⟩,QZ ⟨#[]⟩,QQ QY 0 0,QK QU 0,XK false,QK QU 0,QZ ⟨#[]⟩,QZ ⟨#[]⟩,QQ QY 0 0]) C 41 rfl rfl ao.o SZ.o bz.o dq.o ?_;intro wb av au))
    have ab:=q_ av;have ae:=q_ (show XU wr.heap.size wr wb from i_ bl.o au (λb e=>by have e:b=z9:=e;have h2:wr.heap.size=z9:=di.o;omega));have g6:=q_ (hM.o.on ae.o);clear av au U ao;obtain⟨zs,dj⟩:=a_ wb.heap.size;obtain⟨wc,dg⟩:=a_ (wb.alloc (XX (u0++u2) 39));have fv:=q_ (show (Instr.buildSlice 37 2 #[(0,.agg u0),(1,.agg u2)]).run QW wb = .ok (QQ (QJ ⟨zs,0,QY⟩) 2 2) wc from by rw[<-dj.o,<-dg.o];exact Kf_ u0 u2 ap.size aq.size wb);have fu:=q_ (show XU wb.heap.size wb wc from by rw[<-dg.o];exact (XV _ _).alloc (XJ _) _);have da:=q_ (g6.o.on fu.o);have fs:=q_ (show SRd 6 (ofP CV6) wc (λb=>b=zs) [t.s,t.o] (QJ ⟨zs,0,QY⟩) 2 from by rw[<-dj.o,<-dg.o];exact N2_ i6_ g9.o ga.o wb _);have dn:=q_ (show (Tryz.prog.info? 39).map (·.size)=QJ u0.size from cr_.trans (congrArg QJ ap.size.symm));have dp:=q_ (show (Tryz.prog.info? 39).map (·.size)=QJ u2.size from cr_.trans (congrArg QJ aq.size.symm));have cg:=q_ (show wb.rangeAt z9 0 u0.toList from by rw[<-ap.o];exact b1_ ab.o bp.o (n:=0) (by omega));have ch:=q_ (show wb.rangeAt z9 12 u2.toList from by rw[<-aq.o];exact b1_ ab.o bp.o (n:=2) (by omega));obtain⟨i0,f8,fe,ff,fg⟩:=info_parts De_;obtain⟨l0,d8⟩:=a_ (d3_ (T.take k));have g4:=q_ (show l0.length<=131072 from by rw[<-d8.o,m7_,List.length_take];have:=ag.o;have:=b5.o;omega);rw[d8.o]at da
    go_wp2_with (first
     | ((with_reducible refine d_ (some 40) ?_);refine x_ rfl 39 _ rfl z9 0 rfl u0 _ cg.o YZ rfl dn.o ?_)
     | ((with_reducible refine d_ (some 42) ?_);refine x_ rfl 39 _ rfl z9 12 rfl u2 _ ch.o YZ rfl dp.o ?_)
     | ((with_reducible refine d_ (some 43) ?_);refine g4_ rfl 37 2 _ rfl #[(0,.agg u0),(1,.agg u2)] (by kernel_rfl) (QQ (QJ ⟨zs,0,QY⟩) 2 2) wc fv.o ?_)
     | ((with_reducible refine d_ (some 44) ?_);refine by_ i6_ rfl _ _ 37 rfl i0 (.agg #[QK QU 0,XK false,QK QU 0,QZ ⟨#[]⟩,QZ ⟨#[]⟩,QQ none 0 0]) Tryz.underlying37 f8 fe ff fg rfl (by decide) rfl da.o.own rfl rfl fs.o (λh=>by cases h) (by have:=g4.o;omega) (by decide) ?_;intro v5 w5 f9 f5 fd))
    have g5:=q_ (da.o.app f9 f5 fd);clear f9 f5 fd f8 fe ff fg;go_wp2_with fail;go_roundw
    case rel=>exact⟨k+1,by have:=ag.o;omega,by go_num,q_ (by rw[f_ df.o,zj_,d8.o];exact g5.o)⟩
    case measure=>have:=ag.o;simp[intOf];omega
   ·have a2:¬(k:Int)<n:=by omega
    have ek:k=n:=by omega
    subst ek;clear X hk;have ew:=q_ (show T.take k=T from List.take_of_length_le (by rw[HN.o];omega));rw[ew.o]at hM;go_wp2_with fail;clear a2 ew
    have ca:=q_ (show ∀v,v∈d3_ T->ah_ v/\bt_ v from λv hv=>by
     obtain⟨t,ht,e⟩:=p8_ hv;rcases e with e | e
     ·rw[e];exact⟨(b8.o t ht).get 0,cb.o t ht 0⟩
     ·rw[e];exact⟨(b8.o t ht).get 2,cb.o t ht 2⟩)
    have d3:=q_ (show (d3_ T).length=2*k from by rw[m7_,HN.o]);refine (El_ w (D6_ hM.o.own) (by rw[d3.o];have:=b5.o;omega) (λb hb=>hM.o.own.lt hb) ec.o (λb hb=>YK bj.o.size (hM.o.ow b hb)) (HG.o w (XV _ _)).1 (HG.o w (XV _ _)).2).mono ?_;rintro e I ⟨rfl,Y,ai,cx,fb,ht⟩;have cm:=q_ (show ∀v,v∈Y->ah_ v/\bt_ v from λv hv=>ca.o v (ai.mem_iff.1 hv));have dc:=q_ (λv (hv:v∈d3_ T)=>ai.mem_iff.2 hv);have cn:=q_ (show a0_ Y=U_ T from v8_ eo_ ai cx (λa ha b hb h0=>e3_ (ca.o a ha).1 (ca.o b hb).1 h0));obtain⟨ne,bu⟩:=a_ Y.length;have ep:=q_ (show ne<=131072 from by rw[<-bu.o,ai.length_eq,d3.o];have:=b5.o;omega);have bk:=q_ (show XU w.heap.size w I from i_ ec.o ht (λb hb=>YK bj.o.size (hM.o.ow b hb)));have ci:=q_ (Em_ fb);have eg:=q_ (show ∀b,b<w3.heap.size->I.heap[b]?=w3.heap[b]? from λb hb=>(ht.block b (XY hb hM.o.hb.size) (λe=>by have:=hM.o.ow b e;omega)).trans (hM.o.hb.block b hb));have dd:=q_ (YK hM.o.hb.size ht.size);obtain⟨Ae,ce,eS,_,e9⟩:=ci.o.form;rw[bu.o]at eS;rw[eS]at ci;clear ai cx fb ht hM e9 ca d3 b3 fi bq br bi fj;subst eS;obtain⟨m,Hm⟩:=a_ I.heap.size;obtain⟨bn,cr⟩:=a_ (I.heap.size+1);obtain⟨u,cu⟩:=a_ (I.heap.size+1+1);obtain⟨w6,ba⟩:=a_ (((I.alloc (.map #[] 0)).alloc (XX #[.map (QJ m)] 124)).alloc (XX #[QQ QY 0 0,QQ QY 0 0] 54));have en:=q_ (show (Instr.makeMap 122 QY).run QW I = .ok (.map (QJ m)) (I.alloc (.map #[] 0)) from by rw[<-Hm.o];exact Ni_ I);go_upto_region 14 with ((with_reducible refine d_ (some 48) ?_);refine If_ rfl 122 rfl m _ en.o ?_)
    rw[ba.o,cu.o,cr.o];have B:=q_ (show bn=m+1/\u=m+2 from by have h0:I.heap.size=m:=Hm.o;have h1:I.heap.size+1=bn:=cr.o;have h2:I.heap.size+1+1=u:=cu.o;omega);have aw:=q_ (show XU I.heap.size I w6 from by rw[<-ba.o];exact (((XV I.heap.size I).alloc (XJ _) _).alloc (by simp) _).alloc (by simp;omega) _);have em:=q_ (show w6.heap[m]?=QJ (.map #[] 0) from by rw[<-ba.o,<-Hm.o,heap_alloc_old _ _ (by simp;omega),heap_alloc_old _ _ (by simp)];exact heap_alloc_new I _);have cy:=q_ (show w6.heap[bn]?=QJ (XX #[.map (QJ m)] 124 (0,0)) from by rw[<-ba.o,<-cr.o,heap_alloc_old _ _ (by simp)];have h:=heap_alloc_new (I.alloc (.map #[] 0)) (XX #[.map (QJ m)] 124);rwa [show (I.alloc (.map #[] 0)).heap.size=I.heap.size+1 from by simp]at h);have ed:=q_ (show w6.heap[u]?=QJ (XX #[QQ QY 0 0,QQ QY 0 0] 54 (0,0)) from by rw[<-ba.o,<-cu.o];have h:=heap_alloc_new ((I.alloc (.map #[] 0)).alloc (XX #[.map (QJ m)] 124)) (XX #[QQ QY 0 0,QQ QY 0 0] 54);rwa [show ((I.alloc (.map #[] 0)).alloc (XX #[.map (QJ m)] 124)).heap.size=I.heap.size+1+1 from by simp]at h);have ah:=q_ (show I.heap.size=m from Hm.o);have ea:=q_ (bk.o.trans (aw.o.mono bk.o.size));have ee:=q_ (show GnM w6 m u (c4_ (a0_ (Y.take 0))) (QQ QY 0 0) w6/\h5_ w6 bn m ((a0_ (Y.take 0)).map keyV) from ⟨⟨Turn.refl _ _,ed.o,D_.nil ..,by have:=B.o;omega⟩,⟨cy.o,ty_.fresh em.o⟩⟩);clear ba em cy ed en Hm cr cu;go_wp2_with fail;go_loopw [53] (λe7 wx=>∃j:Nat,j<=ne/\e7 = QK QU (j:Nat)/\Q_ (∃N,GnM w6 m u (c4_ (a0_ (Y.take j))) N wx/\h5_ wx bn m ((a0_ (Y.take j)).map keyV))) (λe7 _=>ne-(intOf e7).toNat)
    case atStart=>exact⟨0,by omega,rfl,q_ ⟨_,ee.o⟩⟩
    case round=>
     rename QV=>wq
     obtain⟨j,hj,rfl,hR⟩:=hrel;obtain⟨N,f7,c0⟩:=hR.o;have a5:=q_ f7;have bx:=q_ c0;clear f7 c0 hR ee;have cz:=q_ (show XU w.heap.size w wq from i_ ea.o a5.o.t (λb h=>by have h1:=bk.o.size;have h2:=ah.o;have h3:=B.o;rcases h with h | h<;>omega))
     have d7:=q_ (λb (hb:b<m)=>(a5.o.t.block b (by have h2:=ah.o;have:=aw.o.size;omega) (λh=>by have h3:=B.o;rcases h with h | h<;>omega)).trans (aw.o.block b (by have h2:=ah.o;omega)))
     by_cases X:j<ne
     ·have a1:(0:Int)<=j:=by omega
      have a2:(j:Int)<ne:=by omega
      have ge:=ep.o;have fh:IntKind.i64.wrap ((j:Int)+1)=(j:Int)+1:=IntWalk.i64_in _ (by omega);clear ge;have af:=q_ X;obtain⟨v,hv⟩:∃v,Y[j]?=QJ v:=⟨_,XQ (by rw[bu.o];exact X)⟩;have ex:=q_ hv;have b9:=q_ (cm.o v (YQ hv));obtain⟨ad,C,eA,gd,⟨_,_,Av,qv,cv⟩,f4⟩:=cw_.cell i6_ ci.o bu.o hv;subst eA;obtain⟨sv,de⟩:=a_ (Value.slice Av 0 qv);rw[de.o]at cv;have d2:=q_ (show Eq6 C v sv from ⟨cv.symm⟩);have d9:=q_ (λi (hi:i<C.size)=>(show wq.cell? ((ad.add (j*6)).add i)=C[i]? from (World.cell?_of_block (d7.o _ (by rw[N_,N_];have:=ah.o;omega))).trans (f4 i hi)));have I6:=q_ (show (Tryz.prog.info? 39).map (·.size)=QJ C.size from cr_.trans (congrArg QJ d2.o.size.symm));have O6:=q_ (show C.all (·.oneCell')=true from by rw[cv,<-de.o];kernel_rfl);have gb:=q_ (show C.size=(#[QK QU 0,XK false,QK QU 0,QZ ⟨#[]⟩,QZ ⟨#[]⟩,QQ QY 0 0]:Array XZ).size from d2.o.size);have dx:=qm_ v b9.o.1 Av qv;have dz:=λid=>st_ id v (Ja_ b9.o.1) Av qv;rw[de.o,d2.o.o]at dx dz;have g2:=q_ dx;have eo:=q_ dz;obtain⟨D,HD⟩:=a_ (a0_ (Y.take j));rw[HD.o]at a5 bx;have fx:=q_ (show v∈D->a0_ (Y.take (j+1))=D from λh=>by rw[f_ ex.o,zn_ (by rw[HD.o];exact h),HD.o]);have fw:=q_ (show v∉D->a0_ (Y.take (j+1))=D++[v] from λh=>by rw[f_ ex.o,zm_ (by rw[HD.o];exact h),HD.o]);have am:=q_ (show ∀x,x∈D->ah_ x from λx hx=>by rw[<-HD.o]at hx;exact (cm.o x (List.mem_of_mem_take ((fl_ Y j x).1 hx))).1);have bo:=q_ (show D.length<=131072 from by rw[<-HD.o];exact YK (zl_ (Y.take j)) (by rw[List.length_take];have:=ep.o;have:=af.o;omega));clear hv gd cv f4 dx dz X hj;obtain⟨d,a0⟩:=a_ wq.heap.size;obtain⟨wa,U⟩:=a_ (wq.alloc (XX #[QK QU 0,XK false,QK QU 0,QZ ⟨#[]⟩,QZ ⟨#[]⟩,QQ QY 0 0] 39));have bl:=q_ (show XU wq.heap.size wq wa from by rw[<-U.o];exact (XV _ _).alloc (XJ _) _);have ao:=q_ (show wa.heap[d]?=QJ (XX #[QK QU 0,XK false,QK QU 0,QZ ⟨#[]⟩,QZ ⟨#[]⟩,QQ QY 0 0] 39 (0,0)) from by rw[<-U.o,<-a0.o];exact heap_alloc_new wq _)
      go_upto_region 17 with (first
       | ((with_reducible refine d_ (some 56) ?_);refine E_ (by rfl) 39 _ rfl rfl C _ d9.o YZ rfl I6.o ?_)
       | ((with_reducible refine y_ 13 ?_);rw[U.o,a0.o];refine r_ rfl 39 _ _ rfl d (#[QK QU 0,XK false,QK QU 0,QZ ⟨#[]⟩,QZ ⟨#[]⟩,QQ QY 0 0]) C 39 rfl rfl ao.o gb.o I6.o O6.o ?_;intro wb av au))
      have ab:=q_ av;have ae:=q_ (show XU wq.heap.size wq wb from i_ bl.o au (λb e=>by have e:b=d:=e;have h2:wq.heap.size=d:=a0.o;omega));have d5:=q_ (a5.o.on ae.o);have db:=q_ (bx.o.on ae.o);have c4:=q_ (cz.o.trans (ae.o.mono cz.o.size));clear av au U ao d9;go_wp2_with ((with_reducible refine d_ (some 59) ?_);refine x_ rfl 39 _ rfl d 0 rfl C _ (m_ ab.o) YZ rfl I6.o ?_)
      refine (g2.o wb (HG.o wb c4.o).1).mono ?_;unfold o7_;rintro e wc ⟨rfl,hb⟩;have b4:=q_ ((hb.block d (b_ ab.o)).trans ab.o);have cd:=q_ (d5.o.on hb);have b6:=q_ (db.o.on hb);have fl:=q_ (c4.o.trans (hb.mono c4.o.size));clear hb;by_cases bc:v∈D
      ·have M:=kl_ b6.o (keyV v) (oz_ b9.o.1) ((lr_ am.o b9.o.1).2 bc);have bm:=q_ (show a0_ (Y.take (j+1))=D from fx.o bc);clear bc;go_wp2_with fail;refine M.mono ?_;rintro e wd ⟨rfl,rfl⟩;clear M;go_wp2_with fail;go_roundw
       case rel=>exact⟨j+1,by have:=af.o;omega,by go_num,q_ ⟨N,by rw[bm.o];exact⟨cd.o,b6.o⟩⟩⟩
       case measure=>have:=af.o;simp[intOf];omega
      ·have cw:=z0_ b6.o (keyV v) (oz_ b9.o.1) (λh=>bc ((lr_ am.o b9.o.1).1 h)) (by rw[List.length_map];have:=bo.o;omega);have bm:=q_ (show a0_ (Y.take (j+1))=D++[v] from fw.o bc);clear bc;rw[List.length_map]at cw;obtain⟨q,Hq⟩:=a_ D.length;rw[Hq.o]at cw bo;go_wp2_with fail;refine cw.mono ?_;rintro e wd ⟨rfl,c0,ht⟩;have fr:=q_ c0;have g0:=q_ ((ht.block d (b_ b4.o) (λe=>by have e:d=m:=e;have h2:wq.heap.size=d:=a0.o;have h3:=ah.o;have h4:=aw.o.size;have h5:=a5.o.t.size;have h6:=B.o;have:=b_ a5.o.box;omega)).trans b4.o);have fz:=q_ (cd.o.map ht);have gi:=q_ (i_ fl.o ht (λb e=>by have e:b=m:=e;have:=bk.o.size;have:=ah.o;omega));clear c0 ht cw;go_upto_region 19 with fail;have c1:=q_ (show ∀b,N.ownBlock=QJ b->b<d from λb h=>by have:=(a5.o.blk h).2;have h2:wq.heap.size=d:=a0.o;omega);have c2:=q_ (show u<d from by have:=b_ a5.o.box;have h2:wq.heap.size=d:=a0.o;omega);obtain⟨we,dm⟩:=a_ wd.drew;have a3:=q_ (show GnM w6 m u (c4_ D) N we from by rw[<-dm.o];exact fz.o.on (XV _ _).drew);have bg:=q_ (show h5_ we bn m (D.map keyV++[keyV v]) from by rw[<-dm.o];exact fr.o.on (XV _ _).drew);refine wp_region_held_drew (S:=λW:QV=>W.heap[d]?=QJ (Obj.cells C 39 (0,0))) (by kernel_rfl) g0.o λy=>?_;refine P_.o ?_;rw[dm.o]at y ⊢;refine C_ 0 65 (YX (QJ ⟨u,0,QY⟩)) y λy=>?_;refine C_ 2 67 (QK QU (q:Nat)) y λy=>?_;refine tlW 3 68 (.agg C) y (λw gc=>?_) λy=>?_
       ·exact n_ (a6_ gc 39 _ YZ rfl I6.o)
       refine cb_ 1 4 (by kernel_rfl) (by rfl) (by rfl) (λK f=>?_) λK f=>?_
       ·change Oper.wp _ ⟨some 66,_,_,_,_,_⟩ _ _ _ _;refine iz_ rfl rfl (QX a3.o.box 0) ?_;dsimp only;refine tlB f y λy=>?_;clear f K;refine tlC 4 λK f=>?_;go_simp;refine (eo.o _ _).mono ?_;unfold k1_;rintro e wf ⟨L,P,rfl,hl,hp,hb⟩;obtain⟨⟨AL,cL,eL,_,_⟩,⟨AP,cP,eP,_,_⟩⟩:=And.intro (id hl) (id hp);obtain⟨lL,dk⟩:=a_ (L_ (q:Nat) v).labels.length;obtain⟨lP,dl⟩:=a_ (L_ (q:Nat) v).props.length;rw[dk.o]at eL;rw[dl.o]at eP;subst eL;subst eP;have b7:=q_ (show NoR wf (λb=>we.heap.size<=b/\b<wf.heap.size) (L_ (q:Nat) v) (#[QK QU (q:Nat),QQ AL lL cL,QQ AP lP cP]) from ⟨_,_,by rw[bn_],hl,hp⟩);have r:=q_ (a3.o.on hb);have cf:=q_ (bg.o.on hb);have Z:=q_ ((hb.block d (b_ y)).trans y);have bh:=q_ (sw_ (q:Nat) AL lL cL AP lP cP);have bd:=q_ ((heap_alloc_old wf (Obj.cells (#[QK QU (q:Nat),QQ AL lL cL,QQ AP lP cP]) 72) (b_ Z.o)).trans Z.o);have ay:=q_ (show u<we.heap.size/\∀b,N.ownBlock=QJ b->b<we.heap.size from ⟨b_ a3.o.box,λb h=>(a3.o.blk h).2⟩);clear hl hp hb;dsimp only;refine tlB f Z.o λy=>?_;clear f K;refine tlC 5 λK f=>?_;refine dl_ 51 1 _ rfl #[(0,.agg (#[QK QU (q:Nat),QQ AL lL cL,QQ AP lP cP]))] (by kernel_rfl) _ _ (pu_ _ _ _ _) ?_;dsimp only;refine tlB f bd.o λy=>?_;clear f K;refine tlC 6 λK f=>?_;refine mc_ NoR.good _ _ 51 rfl (.agg #[QK QU 0,QQ QY 0 0,QQ QY 0 0]) Tryz.underlying51 na_ rfl (by decide) (by decide) rfl r.o.own (kk_ D) rfl b7.o rfl bh.o (by rw[Hq.o];have:=bo.o;omega) (λb h=>h.2) (λb h=>h.2) (λb h e=>by have:=ay.o.2 b e;have:=h.1;omega) λg J wg ho hg hl a8=>?_;rw[Hq.o]at ho ⊢;have a7:=q_ ((hg.block u (b_ r.o.box) (λe=>by have:=(r.o.blk e.symm).1;omega)).trans r.o.box);have a6:=q_ ((hg.block d (b_ Z.o) (λe=>by have h1:=a3.o.blk (b:=d) e.symm;have h2:=a0.o;have h3:=c1.o d e.symm;omega)).trans Z.o);have b1:=q_ ho;have aa:=q_ hg;have b0:=q_ hl;have b2:=q_ a8;clear ho hg hl a8;dsimp only;refine tlB f a6.o λy=>?_;clear f K;refine C_ 7 72 (YX (QJ ⟨u,0,QY⟩)) y λy=>?_;refine tlC 8 λK f=>?_;refine dy_ 51 _ _ rfl u 0 (#[N,QQ QY 0 0]) 54 (QQ (QJ ⟨g,0,QY⟩) (q+1) J) rfl rfl (hl_ a7.o (by show 0<2;omega) _ _ _) a7.o λwh hw ht=>?_;have az:=q_ (show GnM w6 m u (c4_ D++[L_ (q:Nat) v]) (QQ (QJ ⟨g,0,QY⟩) (q+1) J) wh from r.o.more (G:=λb=>we.heap.size<=b/\b<wf.heap.size) (λb h=>⟨by have:=ay.o.1;omega,h.2⟩) aa.o b0.o b2.o (b1.o.mono NoR.good λb h=>h) hw ht);have bw:=q_ (show h5_ wh bn m (D.map keyV++[keyV v]) from (cf.o.turn (Turn.of_grown aa.o) (λe=>by have:=(r.o.blk e.symm).1;have:=B.o;omega) (λe=>by have:=(r.o.blk e.symm).1;have:=B.o;omega)).turn ht (λe=>by have e:bn=u:=e;have:=B.o;omega) (λe=>by have e:m=u:=e;have:=B.o;omega));have bs:=q_ ((ht.block d (b_ a6.o) (λe=>by have e:d=u:=e;have:=c2.o;omega)).trans a6.o);clear hw ht;refine tlB f bs.o λy=>?_;clear f K;refine⟨wpAnyH_done (by kernel_rfl) ?_ _⟩;clear y;go_wp2_with fail;go_roundw
        case rel=>exact⟨j+1,by have:=af.o;omega,by go_num,q_ ⟨_,by rw[bm.o,is_,Hq.o,List.map_append];exact⟨az.o,bw.o⟩⟩⟩
        case measure=>have:=af.o;simp[intOf];omega
       ·change Oper.wp _ ⟨some 69,_,_,_,_,_⟩ _ _ _ _;go_simp;refine (eo.o _ _).mono ?_;unfold k1_;rintro e wf ⟨L,P,rfl,hl,hp,hb⟩;obtain⟨⟨AL,cL,eL,_,_⟩,⟨AP,cP,eP,_,_⟩⟩:=And.intro (id hl) (id hp);obtain⟨lL,dk⟩:=a_ (L_ (q:Nat) v).labels.length;obtain⟨lP,dl⟩:=a_ (L_ (q:Nat) v).props.length;rw[dk.o]at eL;rw[dl.o]at eP;subst eL;subst eP;have b7:=q_ (show NoR wf (λb=>we.heap.size<=b/\b<wf.heap.size) (L_ (q:Nat) v) (#[QK QU (q:Nat),QQ AL lL cL,QQ AP lP cP]) from ⟨_,_,by rw[bn_],hl,hp⟩);have r:=q_ (a3.o.on hb);have cf:=q_ (bg.o.on hb);have Z:=q_ ((hb.block d (b_ y)).trans y);have bh:=q_ (sw_ (q:Nat) AL lL cL AP lP cP);have bd:=q_ ((heap_alloc_old wf (Obj.cells (#[QK QU (q:Nat),QQ AL lL cL,QQ AP lP cP]) 72) (b_ Z.o)).trans Z.o);have ay:=q_ (show u<we.heap.size/\∀b,N.ownBlock=QJ b->b<we.heap.size from ⟨b_ a3.o.box,λb h=>(a3.o.blk h).2⟩);clear hl hp hb;dsimp only;refine tlB f Z.o λy=>?_;clear f K;refine cb_ 1 5 (by kernel_rfl) (by rfl) (by rfl) (λK f=>?_) λK f=>?_
        ·change Oper.wp _ ⟨some 66,_,_,_,_,_⟩ _ _ _ _;refine iz_ rfl rfl (QX r.o.box 0) ?_;dsimp only;refine tlB f y λy=>?_;clear f K;refine tlC 5 λK f=>?_;refine dl_ 51 1 _ rfl #[(0,.agg (#[QK QU (q:Nat),QQ AL lL cL,QQ AP lP cP]))] (by kernel_rfl) _ _ (pu_ _ _ _ _) ?_;dsimp only;refine tlB f bd.o λy=>?_;clear f K;refine tlC 6 λK f=>?_;refine mc_ NoR.good _ _ 51 rfl (.agg #[QK QU 0,QQ QY 0 0,QQ QY 0 0]) Tryz.underlying51 na_ rfl (by decide) (by decide) rfl r.o.own (kk_ D) rfl b7.o rfl bh.o (by rw[Hq.o];have:=bo.o;omega) (λb h=>h.2) (λb h=>h.2) (λb h e=>by have:=ay.o.2 b e;have:=h.1;omega) λg J wg ho hg hl a8=>?_;rw[Hq.o]at ho ⊢;have a7:=q_ ((hg.block u (b_ r.o.box) (λe=>by have:=(r.o.blk e.symm).1;omega)).trans r.o.box);have a6:=q_ ((hg.block d (b_ Z.o) (λe=>by have h1:=a3.o.blk (b:=d) e.symm;have h2:=a0.o;have h3:=c1.o d e.symm;omega)).trans Z.o);have b1:=q_ ho;have aa:=q_ hg;have b0:=q_ hl;have b2:=q_ a8;clear ho hg hl a8;dsimp only;refine tlB f a6.o λy=>?_;clear f K;refine C_ 7 72 (YX (QJ ⟨u,0,QY⟩)) y λy=>?_;refine tlC 8 λK f=>?_;refine dy_ 51 _ _ rfl u 0 (#[N,QQ QY 0 0]) 54 (QQ (QJ ⟨g,0,QY⟩) (q+1) J) rfl rfl (hl_ a7.o (by show 0<2;omega) _ _ _) a7.o λwh hw ht=>?_;have az:=q_ (show GnM w6 m u (c4_ D++[L_ (q:Nat) v]) (QQ (QJ ⟨g,0,QY⟩) (q+1) J) wh from r.o.more (G:=λb=>we.heap.size<=b/\b<wf.heap.size) (λb h=>⟨by have:=ay.o.1;omega,h.2⟩) aa.o b0.o b2.o (b1.o.mono NoR.good λb h=>h) hw ht);have bw:=q_ (show h5_ wh bn m (D.map keyV++[keyV v]) from (cf.o.turn (Turn.of_grown aa.o) (λe=>by have:=(r.o.blk e.symm).1;have:=B.o;omega) (λe=>by have:=(r.o.blk e.symm).1;have:=B.o;omega)).turn ht (λe=>by have e:bn=u:=e;have:=B.o;omega) (λe=>by have e:m=u:=e;have:=B.o;omega));have bs:=q_ ((ht.block d (b_ a6.o) (λe=>by have e:d=u:=e;have:=c2.o;omega)).trans a6.o);clear hw ht;refine tlB f bs.o λy=>?_;clear f K;refine⟨wpAnyH_done (by kernel_rfl) ?_ _⟩;clear y;go_wp2_with fail;go_roundw
         case rel=>exact⟨j+1,by have:=af.o;omega,by go_num,q_ ⟨_,by rw[bm.o,is_,Hq.o,List.map_append];exact⟨az.o,bw.o⟩⟩⟩
         case measure=>have:=af.o;simp[intOf];omega
        ·change Oper.wp _ ⟨some 70,_,_,_,_,_⟩ _ _ _ _;refine dl_ 51 1 _ rfl #[(0,.agg (#[QK QU (q:Nat),QQ AL lL cL,QQ AP lP cP]))] (by kernel_rfl) _ _ (pu_ _ _ _ _) ?_;dsimp only;refine tlB f bd.o λy=>?_;clear f K;refine tlC 1 λK f=>?_;refine iz_ rfl rfl ((World.cell?_of_block (heap_alloc_old wf _ (b_ r.o.box))).trans (QX r.o.box 0)) ?_;dsimp only;refine tlB f y λy=>?_;clear f K;refine tlC 6 λK f=>?_;refine mc_ NoR.good _ _ 51 rfl (.agg #[QK QU 0,QQ QY 0 0,QQ QY 0 0]) Tryz.underlying51 na_ rfl (by decide) (by decide) rfl r.o.own (kk_ D) rfl b7.o rfl bh.o (by rw[Hq.o];have:=bo.o;omega) (λb h=>h.2) (λb h=>h.2) (λb h e=>by have:=ay.o.2 b e;have:=h.1;omega) λg J wg ho hg hl a8=>?_;rw[Hq.o]at ho ⊢;have a7:=q_ ((hg.block u (b_ r.o.box) (λe=>by have:=(r.o.blk e.symm).1;omega)).trans r.o.box);have a6:=q_ ((hg.block d (b_ Z.o) (λe=>by have h1:=a3.o.blk (b:=d) e.symm;have h2:=a0.o;have h3:=c1.o d e.symm;omega)).trans Z.o);have b1:=q_ ho;have aa:=q_ hg;have b0:=q_ hl;have b2:=q_ a8;clear ho hg hl a8;dsimp only;refine tlB f a6.o λy=>?_;clear f K;refine C_ 7 72 (YX (QJ ⟨u,0,QY⟩)) y λy=>?_;refine tlC 8 λK f=>?_;refine dy_ 51 _ _ rfl u 0 (#[N,QQ QY 0 0]) 54 (QQ (QJ ⟨g,0,QY⟩) (q+1) J) rfl rfl (hl_ a7.o (by show 0<2;omega) _ _ _) a7.o λwh hw ht=>?_;have az:=q_ (show GnM w6 m u (c4_ D++[L_ (q:Nat) v]) (QQ (QJ ⟨g,0,QY⟩) (q+1) J) wh from r.o.more (G:=λb=>we.heap.size<=b/\b<wf.heap.size) (λb h=>⟨by have:=ay.o.1;omega,h.2⟩) aa.o b0.o b2.o (b1.o.mono NoR.good λb h=>h) hw ht);have bw:=q_ (show h5_ wh bn m (D.map keyV++[keyV v]) from (cf.o.turn (Turn.of_grown aa.o) (λe=>by have:=(r.o.blk e.symm).1;have:=B.o;omega) (λe=>by have:=(r.o.blk e.symm).1;have:=B.o;omega)).turn ht (λe=>by have e:bn=u:=e;have:=B.o;omega) (λe=>by have e:m=u:=e;have:=B.o;omega));have bs:=q_ ((ht.block d (b_ a6.o) (λe=>by have e:d=u:=e;have:=c2.o;omega)).trans a6.o);clear hw ht;refine tlB f bs.o λy=>?_;clear f K;refine⟨wpAnyH_done (by kernel_rfl) ?_ _⟩;clear y;go_wp2_with fail;go_roundw
         case rel=>exact⟨j+1,by have:=af.o;omega,by go_num,q_ ⟨_,by rw[bm.o,is_,Hq.o,List.map_append];exact⟨az.o,bw.o⟩⟩⟩
         case measure=>have:=af.o;simp[intOf];omega
     ·have a2:¬(j:Int)<ne:=by omega
      have ej:j=ne:=by omega
      subst ej;clear X hj;have ev:=q_ (show Y.take j=Y from List.take_of_length_le (by rw[bu.o];omega));rw[ev.o,cn.o]at a5 bx
      have d1:=q_ (show ∀t,t∈T->t.s∈U_ T/\t.o∈U_ T from λt ht=>by
       have hm:=λv=>(fl_ Y Y.length v);rw[List.take_length,cn.o]at hm;exact⟨(hm _).2 (dc.o _ (List.mem_flatMap.2 ⟨t,ht,by simp⟩)),(hm _).2 (dc.o _ (List.mem_flatMap.2 ⟨t,ht,by simp⟩))⟩)
      have am:=q_ (show ∀x,x∈U_ T->ah_ x from λx hx=>by
       have hm:=(fl_ Y Y.length x);rw[List.take_length,cn.o]at hm;exact (cm.o x (hm.1 hx)).1)
      have d6:=q_ (K2_ T);obtain⟨D,HD⟩:=a_ (U_ T);rw[HD.o]at a5 bx d1 am d6;obtain⟨ze,ey⟩:=a_ wq.heap.size;have a3:=q_ (show GeM wq u ze (c4_ D) N (fk_ D (T.take 0)) (QQ QY 0 0) wq from by rw[<-ey.o];exact a5.o.next);have cq:=q_ (show z<w3.heap.size from b_ ef.o);have bt:=q_ (show ∀b,b<w3.heap.size->wq.heap[b]?=w3.heap[b]?/\b<m from λb hb=>⟨(d7.o b (by have:=dd.o;have:=ah.o;omega)).trans (eg.o b hb),by have:=dd.o;have:=ah.o;omega⟩);clear ev cm cn dc ci eg d7 eb bj bk;go_wp2_with fail;clear a2;go_loopw [76] (λe8 wx=>∃i:Nat,i<=k/\e8 = QK QU (i:Nat)/\Q_ (∃E,GeM wq u ze (c4_ D) N (fk_ D (T.take i)) E wx)) (λe8 _=>k-(intOf e8).toNat)
      case atStart=>exact⟨0,by omega,rfl,q_ ⟨_,a3.o⟩⟩
      case round=>
       rename QV=>wx
       obtain⟨i,hi,rfl,hR⟩:=hrel;obtain⟨E,f6⟩:=hR.o;have O:=q_ f6;clear f6 hR;have d0:=q_ (show XU w.heap.size w wx from i_ cz.o O.o.t (λb h=>by have h1:=ea.o.size;have h3:=B.o;have h4:=aw.o.size;have h5:=ah.o;have h6:=O.o.lt;have h7:=HZ.o;have h8:=cq.o;have h9:=(bt.o z cq.o).2;rcases h with h | h<;>omega))
       have eh:=q_ (show ∀b,b<w3.heap.size->wx.heap[b]?=w3.heap[b]? from λb hb=>(O.o.t.block b (by have:=ey.o;have:=(bt.o b hb).2;have:=B.o;have:=O.o.lt;omega) (λh=>by have:=(bt.o b hb).2;have:=B.o;have:=O.o.lt;rcases h with h | h<;>omega)).trans (bt.o b hb).1)
       have g7:=q_ (bx.o.turn O.o.t (λh=>by have:=B.o;have:=O.o.lt;rcases h with h | h<;>omega) (λh=>by have:=B.o;have:=O.o.lt;rcases h with h | h<;>omega))
       by_cases X:i<k
       ·have a1:(0:Int)<=i:=by omega
        have a2:(i:Int)<k:=by omega
        have bb:=b5.o;have fh:IntKind.i64.wrap ((i:Int)+1)=(i:Int)+1:=IntWalk.i64_in _ (by omega);clear bb;have ag:=q_ X;obtain⟨t,ht⟩:∃t,T[i]?=QJ t:=⟨_,XQ (by rw[HN.o];exact X)⟩;have df:=q_ ht;have ac:=YQ ht;have eu:=q_ ac;obtain⟨ad,C,eA,du,ak,hc,c7,ss,aj,ar⟩:=(eq.o wx eh.o).at_ ht;subst eA;have bp:=q_ (show vh_ C t ss from ⟨ar.symm⟩);have bf:=q_ (λj (hj:j<C.size)=>(show wx.cell? ((ad.add (i*18)).add j)=C[j]? from by rw[add_of_add];exact hc j (by rw[ak]at hj;exact hj)));have bz:=q_ (ey_.trans (congrArg QJ ak.symm));have dq:=q_ (show C.all (·.oneCell')=true from h7_ (by rw[ar];exact cf_ t ss (λi hi=>by obtain⟨A,J,e⟩:=aj i hi;exact⟨A,0,J,e⟩)));obtain⟨A0,q0,e0⟩:=aj 0 (by omega);obtain⟨A2,q2,e2⟩:=aj 2 (by omega);obtain⟨u0,ap⟩:=v_ (t.get 0) (ss 0);obtain⟨u2,aq⟩:=v_ (t.get 2) (ss 2);have ck:=q_ (show ah_ t.s from (b8.o t ac).get 0);have cl:=q_ (show ah_ t.o from (b8.o t ac).get 2);have c8:=qm_ t.s ck.o A0 q0;have c9:=qm_ t.o cl.o A2 q2;rw[show c_ t.s (QQ A0 0 q0)=u0 from by rw[<-ap.o,e0];rfl]at c8;rw[show c_ t.o (QQ A2 0 q2)=u2 from by rw[<-aq.o,e2];rfl]at c9;have fo:=q_ c8;have fp:=q_ c9;have SZ:=q_ (show C.size=(#[QK QU 0,XK false,QK QU 0,QZ ⟨#[]⟩,QZ ⟨#[]⟩,QQ QY 0 0,QK QU 0,XK false,QK QU 0,QZ ⟨#[]⟩,QZ ⟨#[]⟩,QQ QY 0 0,QK QU 0,XK false,QK QU 0,QZ ⟨#[]⟩,QZ ⟨#[]⟩,QQ QY 0 0]:Array XZ).size from ak);have g8:=q_ (show C[9]?=QJ (QZ t.p.text) from by rw[ar];rfl);clear ht du ak hc c7 aj ar e0 e2 ac X hi c8 c9;obtain⟨a9,c5⟩:=a_ wx.heap.size;obtain⟨wa,U⟩:=a_ (wx.alloc (XX #[QK QU 0,XK false,QK QU 0,QZ ⟨#[]⟩,QZ ⟨#[]⟩,QQ QY 0 0,QK QU 0,XK false,QK QU 0,QZ ⟨#[]⟩,QZ ⟨#[]⟩,QQ QY 0 0,QK QU 0,XK false,QK QU 0,QZ ⟨#[]⟩,QZ ⟨#[]⟩,QQ QY 0 0] 41));have bl:=q_ (show XU wx.heap.size wx wa from by rw[<-U.o];exact (XV _ _).alloc (XJ _) _);have ao:=q_ (show wa.heap[a9]?=QJ (XX #[QK QU 0,XK false,QK QU 0,QZ ⟨#[]⟩,QZ ⟨#[]⟩,QQ QY 0 0,QK QU 0,XK false,QK QU 0,QZ ⟨#[]⟩,QZ ⟨#[]⟩,QQ QY 0 0,QK QU 0,XK false,QK QU 0,QZ ⟨#[]⟩,QZ ⟨#[]⟩,QQ QY 0 0] 41 (0,0)) from by rw[<-U.o,<-c5.o];exact heap_alloc_new wx _)
        go_upto_region 24 with (first
         | ((with_reducible refine d_ (some 80) ?_);refine E_ (by rfl) 41 _ rfl rfl C _ bf.o Tryz.underlying41 rfl bz.o ?_)
         | ((with_reducible refine y_ 17 ?_);rw[U.o,c5.o];refine r_ rfl 41 _ _ rfl a9 (#[QK QU 0,XK false,QK QU 0,QZ ⟨#[]⟩,QZ ⟨#[]⟩,QQ QY 0 0,QK QU 0,XK false,QK QU 0,QZ ⟨#[]⟩,QZ ⟨#[]⟩,QQ QY 0 0,QK QU 0,XK false,QK QU 0,QZ ⟨#[]⟩,QZ ⟨#[]⟩,QQ QY 0 0]) C 41 rfl rfl ao.o SZ.o bz.o dq.o ?_;intro wb av au))
        have ab:=q_ av;have ae:=q_ (show XU wx.heap.size wx wb from i_ bl.o au (λb e=>by have e:b=a9:=e;have h2:wx.heap.size=a9:=c5.o;omega));have d5:=q_ (O.o.on ae.o);have db:=q_ (g7.o.on ae.o);have c3:=q_ (d0.o.trans (ae.o.mono d0.o.size));clear av au U ao bf;have dn:=q_ (show (Tryz.prog.info? 39).map (·.size)=QJ u0.size from cr_.trans (congrArg QJ ap.size.symm));have dp:=q_ (show (Tryz.prog.info? 39).map (·.size)=QJ u2.size from cr_.trans (congrArg QJ aq.size.symm));have cg:=q_ (show wb.rangeAt a9 0 u0.toList from by rw[<-ap.o];exact b1_ ab.o bp.o (n:=0) (by omega));go_wp2_with ((with_reducible refine d_ (some 84) ?_);refine x_ rfl 39 _ rfl a9 0 rfl u0 _ cg.o YZ rfl dn.o ?_)
        refine (fo.o wb (HG.o wb c3.o).1).mono ?_;unfold o7_;rintro e wc ⟨rfl,hb⟩;have b4:=q_ ((hb.block a9 (b_ ab.o)).trans ab.o);have cd:=q_ (d5.o.on hb);have b6:=q_ (db.o.on hb);have fk:=q_ (c3.o.trans (hb.mono c3.o.size));clear hb cg;have M:=kl_ b6.o (keyV t.s) (oz_ ck.o) ((lr_ am.o ck.o).2 (d1.o t eu.o).1);rw[mkey_place am.o ck.o]at M;obtain⟨pa,ez⟩:=a_ (b2_ D t.s);rw[ez.o]at M;go_wp2_with fail;refine M.mono ?_;rintro e wd ⟨rfl,f2⟩;rw[f2];clear f2 M;have ch:=q_ (show wc.rangeAt a9 12 u2.toList from by rw[<-aq.o];exact b1_ b4.o bp.o (n:=2) (by omega));go_wp2_with ((with_reducible refine d_ (some 92) ?_);refine x_ rfl 39 _ rfl a9 12 rfl u2 _ ch.o YZ rfl dp.o ?_)
        refine (fp.o wc (HG.o wc fk.o).1).mono ?_;unfold o7_;rintro e we ⟨rfl,hb⟩;have g1:=q_ ((hb.block a9 (b_ b4.o)).trans b4.o);have a4:=q_ (cd.o.on hb);have bg:=q_ (b6.o.on hb);clear hb ch;have M:=kl_ bg.o (keyV t.o) (oz_ cl.o) ((lr_ am.o cl.o).2 (d1.o t eu.o).2);rw[mkey_place am.o cl.o]at M;obtain⟨pb,f0⟩:=a_ (b2_ D t.o);rw[f0.o]at M;have p1:we.cell? ⟨u,1,QY⟩=QJ E:=QX a4.o.box 1;have p9:we.cell? ⟨a9,9,QY⟩=QJ (QZ t.p.text):=(QX g1.o 9).trans g8.o;obtain⟨tx,f1⟩:=a_ t.p.text;rw[f1.o]at p9;obtain⟨zs,dj⟩:=a_ we.heap.size;obtain⟨es,d4⟩:=a_ (fk_ D (T.take i));have fn:=q_ (show es.length=i from by rw[<-d4.o,zf_,List.length_take];have:=ag.o;have:=HN.o;omega);rw[d4.o]at a4;have fm:=q_ (show EdR we (λb=>False) (⟨(i:Nat),pa,pb,tx,[]⟩:l_) #[QK QU (i:Nat),QK QU pa,QK QU pb,QZ tx,QQ QY 0 0] from ⟨_,rfl,SlR.nil ..⟩);go_wp2_with fail;refine M.mono ?_;rintro e wf ⟨rfl,f3⟩;rw[f3];clear f3 M
        go_upto_region 27 with (first
         | ((with_reducible refine d_ (some 105) ?_);refine af_ rfl 74 _ rfl #[(0,QK QU (i:Nat)),(1,QK QU pa),(2,QK QU pb),(3,QZ tx)] (by kernel_rfl) (.agg #[QK QU (i:Nat),QK QU pa,QK QU pb,QZ tx,QQ QY 0 0]) (Kd_ _ _ _ _ _) ?_)
         | ((with_reducible refine d_ (some 106) ?_);refine g4_ rfl 52 1 _ rfl #[(0,.agg #[QK QU (i:Nat),QK QU pa,QK QU pb,QZ tx,QQ QY 0 0])] (by kernel_rfl) _ _ (Fy_ _ _ _ _ _ _) ?_)
         | ((with_reducible refine d_ (some 107) ?_);refine vf_ EdR.good rfl _ _ 52 rfl (.agg #[QK QU 0,QK QU 0,QK QU 0,QZ ⟨#[]⟩,QQ QY 0 0]) Tryz.underlying52 Dd_ rfl (by decide) (by decide) rfl a4.o.own fn.o rfl fm.o rfl (Dt_ _ _ _ _) (by have:=ag.o;have:=b5.o;omega) (λb h=>h.2) (λb h=>h.elim) (λb h=>h.elim) ?_;intro g J wg ho hg hl a8;have a7:=q_ ((hg.block u (b_ a4.o.box) (λe=>by have:=(a4.o.blk e.symm).1;have:=a4.o.lt;omega)).trans a4.o.box);have b1:=q_ ho;have aa:=q_ hg;have b0:=q_ hl;have b2:=q_ a8;clear ho hg hl a8)
         | ((with_reducible refine y_ 108 ?_);refine jo_ rfl 52 _ _ rfl u 1 (#[N,E]) 54 (QQ (QJ ⟨g,0,QY⟩) (i+1) J) rfl rfl (u2_ a7.o (by show 1<2;omega) _ _ _) a7.o ?_;intro wh hw ht))
        have az:=q_ (show GeM wq u ze (c4_ D) N (es++[⟨(i:Nat),pa,pb,tx,[]⟩]) (QQ (QJ ⟨g,0,QY⟩) (i+1) J) wh from a4.o.more (G:=λb=>False) (λb h=>h.elim) aa.o b0.o b2.o (b1.o.mono EdR.good λb h=>h) hw ht);clear hw ht;go_wp2_with fail;go_roundw
        case rel=>exact⟨i+1,by have:=ag.o;omega,by go_num,q_ ⟨_,by rw[f_ df.o,v0_,d4.o,List.length_take,HN.o,Nat.min_eq_left (Nat.le_of_lt ag.o),ez.o,f0.o,f1.o];exact az.o⟩⟩
        case measure=>have:=ag.o;simp[intOf];omega
       ·have a2:¬(i:Int)<k:=by omega
        have ei:i=k:=by omega
        have ft:=q_ (show T.take i=T from List.take_of_length_le (by rw[HN.o];omega));rw[ft.o]at O;clear X hi ei;have g3:=q_ ((eh.o z cq.o).trans ef.o);obtain⟨AN,qN,eN,dt,e5⟩:=O.o.nodes.rd NoR.good;obtain⟨AE,qE,eE,ds,e4⟩:=O.o.own.rd EdR.good;obtain⟨nN,ct⟩:=a_ (c4_ D).length;obtain⟨nE,cs⟩:=a_ (fk_ D T).length;rw[ct.o]at eN dt e5;rw[cs.o]at eE ds e4;subst eN;subst eE;have et:=q_ (And.intro dt e5);have er:=q_ (And.intro ds e4);have dy:=O.o.lt;have fq:=q_ dy
        have cj:=q_ (show ∀wy:QV,Turn (λb=>b=z) wx wy->GrR wy (λb=>w.heap.size<=b/\b<wy.heap.size) (a3_ T) (.agg #[QQ AN nN qN,QQ AE nE qE])/\XU w.heap.size w wy from λwy ht=>by
         have hz:w.heap.size=z:=HZ.o;have h9:=(bt.o z cq.o).2;have h6:=B.o;have hs:=ht.size;have gm:=fq.o;have gn:=ct.o;have gl:=cs.o;have gk:=et.o.1;have gj:=er.o.1;refine⟨?_,i_ d0.o ht (λb e=>by have e:b=z:=e;omega)⟩;rw[d6.o];refine⟨_,_,rfl,⟨AN,qN,by rw[ct.o],by show (c4_ D).length<=qN;omega,?_⟩,⟨AE,qE,by rw[cs.o],by show (fk_ D T).length<=qE;omega,?_⟩⟩
         ·have h1:=et.o.2.keep (w':=wy) NoR.good (λp hp=>ht.cell (by omega) (λe=>by have e:p.block=z:=e;omega));rw[<-ct.o]at h1;exact h1.mono NoR.good (λb h=>by omega)
         ·have h1:=er.o.2.keep (w':=wy) EdR.good (λp hp=>ht.cell (by omega) (λe=>by have e:p.block=z:=e;omega));rw[<-cs.o]at h1;exact h1.mono EdR.good (λb h=>by omega))
        clear dt e5 ds e4 dy
        go_wp2_with (first
         | ((with_reducible refine d_ (some 110) ?_);refine x_ rfl 54 _ rfl u 0 rfl (#[QQ AN nN qN,QQ AE nE qE]) _ (m_ O.o.box) Tryz.underlying54 rfl (J_ _ _) ?_)
         | ((with_reducible refine y_ 2 ?_);refine r_ rfl 54 _ _ rfl z (#[QQ QY 0 0,QQ QY 0 0]) (#[QQ AN nN qN,QQ AE nE qE]) 54 rfl rfl g3.o rfl (J_ _ _) (do_ _ _ _ _ _ _) ?_;intro wy gh fc))
        refine bodyPost_ret (v:=YY #[.agg #[QQ AN nN qN,QQ AE nE qE],QK QU 0]) (ck_ Tryz.results25 (g:=z) rfl gh _ Tryz.underlying54 rfl (J_ _ _) rfl) rfl (.inr ⟨dh.o.1,List.all_eq_true.1 dh.o.2,_,_,rfl,?_,(cj.o wy fc).2⟩);rw[HT.o];exact (cj.o wy fc).1
def ed_ (w:QV) (sz:Nat) (A:Option Addr) (n:Nat) (cs:Nat->Array XZ):Prop:=∀i,i<n->∃ad,A=QJ ad/\ad.block<w.heap.size/\(cs i).size=sz/\(cs i).all (·.oneCell')=true/\∀j,j<sz->w.cell? (ad.add (i*sz+j))=(cs i)[j]?
theorem ed_.on {w w':QV} {sz:Nat} {A:Option Addr} {n:Nat} {cs:Nat->Array XZ} (h:ed_ w sz A n cs) (hb:XU w.heap.size w w'):ed_ w' sz A n cs:=λi hi=>by
 obtain⟨ad,e,h1,h2,a,b⟩:=h i hi;exact⟨ad,e,XY h1 hb.size,h2,a,λj c=>by rw[hb.cell (p:=ad.add (i*sz+j)) (by rw[N_];exact h1)];exact b j c⟩
theorem fd_ (q:Nat->Bool) (k:Nat):(List.range (k+1)).all q=((List.range k).all q&&q k):=by rw[List.range_succ,List.all_append];simp
theorem es_ {q:Nat->Bool} {n k:Nat} (a:k<n) (h:q k=false):(List.range n).all q=false:=by rw[List.all_eq_false];exact⟨k,List.mem_range.2 a,by rw[h];exact Bool.false_ne_true⟩
theorem qd_:(Tryz.prog.info? 72).map (·.size)=some 3:=by kernel_rfl
theorem zq_:(Tryz.prog.info? 74).map (·.size)=some 5:=by kernel_rfl
theorem Hk_:(Tryz.prog.info? 69).map (·.size)=some 7:=by kernel_rfl
theorem C3_ (cs ds:Nat->Array XZ) (q:Nat->Bool) (A B:Option Addr) (n m ca cb:Nat) (w:QV) (hn:n<=1000000000) (hA:ed_ w 3 A n cs) (hB:ed_ w 3 B m ds)
    (hF:∀i,i<n->i<m->∀W:QV,XU w.heap.size w W->Calls QW 141 #[.agg (cs i),.agg (ds i)] W (p_ (q i) W)) :
    Calls QW 143 #[QQ A n ca,QQ B m cb,.func (.func 141) #[] #[]] w (p_ (decide (n=m)&&(List.range n).all q) w):=by
 have HA:=q_ hA;have HB:=q_ hB;have HF:=q_ hF;unfold p_ at HF ⊢;clear hA hB hF;go_enter Tryz.func143,Tryz.ntmps143
 by_cases a7:n=m
 ·subst a7;rw[decide_eq_true rfl,Bool.true_and];obtain⟨r,HR⟩:=a_ ((List.range n).all q);rw[HR.o];go_wp2_with fail;go_loopw [17] (λT f=>∃k:Nat,k<=n/\T = QK QU (k:Nat)/\Q_ (XU w.heap.size w f/\(List.range k).all q=true)) (λT _=>n-(intOf T).toNat)
  case atStart=>exact⟨0,by omega,rfl,q_ ⟨XV _ _,rfl⟩⟩
  case round=>
   rename QV=>f
   obtain⟨k,hk,rfl,t⟩:=hrel;by_cases h:k<n
   ·have a1:(0:Int)<=k:=by omega
    have a2:(k:Int)<n:=by omega
    have w1:IntKind.i64.wrap ((k:Int)+1)=(k:Int)+1:=IntWalk.i64_in _ (by omega);have I:=q_ h;have Z:=q_ t.o.1;have ac:=q_ t.o.2;have ae:=q_ (HA.o.on t.o.1);have ah:=q_ (HB.o.on t.o.1);have a:=q_ (HF.o k h h);obtain⟨ad,rfl,_,u,P,M⟩:=HA.o.on t.o.1 k h;obtain⟨bd,rfl,a6,v,S,N⟩:=HB.o.on t.o.1 k h;obtain⟨c,Hc⟩:=a_ (cs k);obtain⟨d,Hd⟩:=a_ (ds k);obtain⟨qk,Hq⟩:=a_ (q k);rw[Hc.o]at u P M a;rw[Hd.o]at v S N a;rw[Hq.o]at a;have IC:=q_ (show (Tryz.prog.info? 72).map (·.size)=QJ c.size from qd_.trans (congrArg QJ u.symm));have ID:=q_ (show (Tryz.prog.info? 72).map (·.size)=QJ d.size from qd_.trans (congrArg QJ v.symm));have OC:=q_ P;have OD:=q_ S;have SC:=q_ (show c.size=(#[QK QU 0,QQ QY 0 0,QQ QY 0 0]:Array XZ).size from u);have SD:=q_ (show d.size=(#[QK QU 0,QQ QY 0 0,QQ QY 0 0]:Array XZ).size from v);have LC:=q_ (λj (O:j<c.size)=>(show f.cell? ((ad.add (k*3)).add j)=c[j]? from by rw[add_of_add];exact M j (by rw[u]at O;exact O)));have LD:=q_ (λ(W:QV) (hb:XU f.heap.size f W) j (O:j<d.size)=>(show W.cell? ((bd.add (k*3)).add j)=d[j]? from by rw[add_of_add,hb.cell (p:=bd.add (k*3+j)) (by rw[N_];exact a6)];exact N j (by rw[v]at O;exact O)));clear u v P S M N a6 t ae ah h;obtain⟨z,J⟩:=a_ f.heap.size;obtain⟨wa,x⟩:=a_ (f.alloc (XX #[QK QU 0,QQ QY 0 0,QQ QY 0 0] 72));have af:=q_ (show XU f.heap.size f wa from by rw[<-x.o];exact (XV _ _).alloc (XJ _) _);have a0:=q_ (show wa.heap[z]?=QJ (XX #[QK QU 0,QQ QY 0 0,QQ QY 0 0] 72 (0,0)) from by rw[<-x.o,<-J.o];exact heap_alloc_new f _)
    go_upto_region 6 with (first
     | ((with_reducible refine d_ (some 21) ?_);refine E_ (by rfl) 72 _ rfl rfl c _ LC.o Tryz.underlying72 rfl IC.o ?_)
     | ((with_reducible refine y_ 8 ?_);rw[x.o,J.o];refine r_ rfl 72 _ _ rfl z (#[QK QU 0,QQ QY 0 0,QQ QY 0 0]) c 72 rfl rfl a0.o SC.o IC.o OC.o ?_;intro g aa a8))
    have a3:=q_ aa;have C:=q_ (show XU f.heap.size f g from i_ af.o a8 (λb e=>by have e:b=z:=e;have h2:f.heap.size=z:=J.o;omega));clear aa a8 x a0 LC;obtain⟨U,L⟩:=a_ g.heap.size;obtain⟨wc,y⟩:=a_ (g.alloc (XX #[QK QU 0,QQ QY 0 0,QQ QY 0 0] 72));have ag:=q_ (show XU g.heap.size g wc from by rw[<-y.o];exact (XV _ _).alloc (XJ _) _);have a4:=q_ (show wc.heap[U]?=QJ (XX #[QK QU 0,QQ QY 0 0,QQ QY 0 0] 72 (0,0)) from by rw[<-y.o,<-L.o];exact heap_alloc_new g _);have a5:=q_ (LD.o g C.o)
    go_upto_region 7 with (first
     | ((with_reducible refine d_ (some 25) ?_);refine E_ (by rfl) 72 _ rfl rfl d _ a5.o Tryz.underlying72 rfl ID.o ?_)
     | ((with_reducible refine y_ 9 ?_);rw[y.o,L.o];refine r_ rfl 72 _ _ rfl U (#[QK QU 0,QQ QY 0 0,QQ QY 0 0]) d 72 rfl rfl a4.o SD.o ID.o OD.o ?_;intro we ab a9))
    have aj:=q_ ab;have X:=q_ (show XU g.heap.size g we from i_ ag.o a9 (λb e=>by have e:b=U:=e;have h2:g.heap.size=U:=L.o;omega));have ai:=q_ ((X.o.block z (b_ a3.o)).trans a3.o);have D:=q_ (show XU w.heap.size w we from Z.o.trans ((C.o.trans (X.o.mono C.o.size)).mono Z.o.size));clear ab a9 y a4 a5
    go_wp2_with (first
     | ((with_reducible refine d_ (some 27) ?_);refine x_ rfl 72 _ rfl z 0 rfl c _ (m_ ai.o) Tryz.underlying72 rfl IC.o ?_)
     | ((with_reducible refine d_ (some 28) ?_);refine x_ rfl 72 _ rfl U 0 rfl d _ (m_ aj.o) Tryz.underlying72 rfl ID.o ?_))
    refine (a.o we D.o).mono ?_;rintro e wf ⟨rfl,hb⟩;have Y:=q_ (D.o.trans (hb.mono D.o.size));clear hb a
    cases qk with
    | false=>
     have HN:=q_ (show r=false from by rw[<-HR.o];exact es_ I.o Hq.o);go_wp2_with fail;go_ret;exact⟨(by rw[HN.o];rfl),Y.o⟩
    | true=>
     go_wp2_with fail;go_roundw
     case rel=>exact⟨k+1,by have:=I.o;omega,by go_num,q_ ⟨Y.o,by rw[fd_,ac.o,Hq.o];rfl⟩⟩
     case measure=>simp[intOf];have:=I.o;omega
   ·have a2:¬(k:Int)<n:=by omega
    have ak:k=n:=by omega
    have HN:=q_ (show r=true from by rw[<-HR.o,<-ak];exact t.o.2);go_wp2_with fail;go_ret;exact⟨(by rw[HN.o];rfl),t.o.1⟩
 ·have am:¬((n:Int)=(m:Int)):=by omega
  rw[decide_eq_false a7,Bool.false_and];go_wp2_with fail;go_ret;exact⟨rfl,XV _ _⟩
theorem C2_ (cs ds:Nat->Array XZ) (q:Nat->Bool) (A B:Option Addr) (n m ca cb:Nat) (w:QV) (hn:n<=1000000000) (hA:ed_ w 5 A n cs) (hB:ed_ w 5 B m ds)
    (hF:∀i,i<n->i<m->∀W:QV,XU w.heap.size w W->Calls QW 142 #[.agg (cs i),.agg (ds i)] W (p_ (q i) W)) :
    Calls QW 144 #[QQ A n ca,QQ B m cb,.func (.func 142) #[] #[]] w (p_ (decide (n=m)&&(List.range n).all q) w):=by
 have HA:=q_ hA;have HB:=q_ hB;have HF:=q_ hF;unfold p_ at HF ⊢;clear hA hB hF;go_enter Tryz.func144,Tryz.ntmps144
 by_cases a7:n=m
 ·subst a7;rw[decide_eq_true rfl,Bool.true_and];obtain⟨r,HR⟩:=a_ ((List.range n).all q);rw[HR.o];go_wp2_with fail;go_loopw [17] (λT f=>∃k:Nat,k<=n/\T = QK QU (k:Nat)/\Q_ (XU w.heap.size w f/\(List.range k).all q=true)) (λT _=>n-(intOf T).toNat)
  case atStart=>exact⟨0,by omega,rfl,q_ ⟨XV _ _,rfl⟩⟩
  case round=>
   rename QV=>f
   obtain⟨k,hk,rfl,t⟩:=hrel;by_cases h:k<n
   ·have a1:(0:Int)<=k:=by omega
    have a2:(k:Int)<n:=by omega
    have w1:IntKind.i64.wrap ((k:Int)+1)=(k:Int)+1:=IntWalk.i64_in _ (by omega);have I:=q_ h;have Z:=q_ t.o.1;have ac:=q_ t.o.2;have ae:=q_ (HA.o.on t.o.1);have ah:=q_ (HB.o.on t.o.1);have a:=q_ (HF.o k h h);obtain⟨ad,rfl,_,u,P,M⟩:=HA.o.on t.o.1 k h;obtain⟨bd,rfl,a6,v,S,N⟩:=HB.o.on t.o.1 k h;obtain⟨c,Hc⟩:=a_ (cs k);obtain⟨d,Hd⟩:=a_ (ds k);obtain⟨qk,Hq⟩:=a_ (q k);rw[Hc.o]at u P M a;rw[Hd.o]at v S N a;rw[Hq.o]at a;have IC:=q_ (show (Tryz.prog.info? 74).map (·.size)=QJ c.size from zq_.trans (congrArg QJ u.symm));have ID:=q_ (show (Tryz.prog.info? 74).map (·.size)=QJ d.size from zq_.trans (congrArg QJ v.symm));have OC:=q_ P;have OD:=q_ S;have SC:=q_ (show c.size=(#[QK QU 0,QK QU 0,QK QU 0,QZ ⟨#[]⟩,QQ QY 0 0]:Array XZ).size from u);have SD:=q_ (show d.size=(#[QK QU 0,QK QU 0,QK QU 0,QZ ⟨#[]⟩,QQ QY 0 0]:Array XZ).size from v);have LC:=q_ (λj (O:j<c.size)=>(show f.cell? ((ad.add (k*5)).add j)=c[j]? from by rw[add_of_add];exact M j (by rw[u]at O;exact O)));have LD:=q_ (λ(W:QV) (hb:XU f.heap.size f W) j (O:j<d.size)=>(show W.cell? ((bd.add (k*5)).add j)=d[j]? from by rw[add_of_add,hb.cell (p:=bd.add (k*5+j)) (by rw[N_];exact a6)];exact N j (by rw[v]at O;exact O)));clear u v P S M N a6 t ae ah h;obtain⟨z,J⟩:=a_ f.heap.size;obtain⟨wa,x⟩:=a_ (f.alloc (XX #[QK QU 0,QK QU 0,QK QU 0,QZ ⟨#[]⟩,QQ QY 0 0] 74));have af:=q_ (show XU f.heap.size f wa from by rw[<-x.o];exact (XV _ _).alloc (XJ _) _);have a0:=q_ (show wa.heap[z]?=QJ (XX #[QK QU 0,QK QU 0,QK QU 0,QZ ⟨#[]⟩,QQ QY 0 0] 74 (0,0)) from by rw[<-x.o,<-J.o];exact heap_alloc_new f _)
    go_upto_region 6 with (first
     | ((with_reducible refine d_ (some 21) ?_);refine E_ (by rfl) 74 _ rfl rfl c _ LC.o Tryz.underlying74 rfl IC.o ?_)
     | ((with_reducible refine y_ 8 ?_);rw[x.o,J.o];refine r_ rfl 74 _ _ rfl z (#[QK QU 0,QK QU 0,QK QU 0,QZ ⟨#[]⟩,QQ QY 0 0]) c 74 rfl rfl a0.o SC.o IC.o OC.o ?_;intro g aa a8))
    have a3:=q_ aa;have C:=q_ (show XU f.heap.size f g from i_ af.o a8 (λb e=>by have e:b=z:=e;have h2:f.heap.size=z:=J.o;omega));clear aa a8 x a0 LC;obtain⟨U,L⟩:=a_ g.heap.size;obtain⟨wc,y⟩:=a_ (g.alloc (XX #[QK QU 0,QK QU 0,QK QU 0,QZ ⟨#[]⟩,QQ QY 0 0] 74));have ag:=q_ (show XU g.heap.size g wc from by rw[<-y.o];exact (XV _ _).alloc (XJ _) _);have a4:=q_ (show wc.heap[U]?=QJ (XX #[QK QU 0,QK QU 0,QK QU 0,QZ ⟨#[]⟩,QQ QY 0 0] 74 (0,0)) from by rw[<-y.o,<-L.o];exact heap_alloc_new g _);have a5:=q_ (LD.o g C.o)
    go_upto_region 7 with (first
     | ((with_reducible refine d_ (some 25) ?_);refine E_ (by rfl) 74 _ rfl rfl d _ a5.o Tryz.underlying74 rfl ID.o ?_)
     | ((with_reducible refine y_ 9 ?_);rw[y.o,L.o];refine r_ rfl 74 _ _ rfl U (#[QK QU 0,QK QU 0,QK QU 0,QZ ⟨#[]⟩,QQ QY 0 0]) d 74 rfl rfl a4.o SD.o ID.o OD.o ?_;intro we ab a9))
    have aj:=q_ ab;have X:=q_ (show XU g.heap.size g we from i_ ag.o a9 (λb e=>by have e:b=U:=e;have h2:g.heap.size=U:=L.o;omega));have ai:=q_ ((X.o.block z (b_ a3.o)).trans a3.o);have D:=q_ (show XU w.heap.size w we from Z.o.trans ((C.o.trans (X.o.mono C.o.size)).mono Z.o.size));clear ab a9 y a4 a5
    go_wp2_with (first
     | ((with_reducible refine d_ (some 27) ?_);refine x_ rfl 74 _ rfl z 0 rfl c _ (m_ ai.o) Tryz.underlying74 rfl IC.o ?_)
     | ((with_reducible refine d_ (some 28) ?_);refine x_ rfl 74 _ rfl U 0 rfl d _ (m_ aj.o) Tryz.underlying74 rfl ID.o ?_))
    refine (a.o we D.o).mono ?_;rintro e wf ⟨rfl,hb⟩;have Y:=q_ (D.o.trans (hb.mono D.o.size));clear hb a
    cases qk with
    | false=>
     have HN:=q_ (show r=false from by rw[<-HR.o];exact es_ I.o Hq.o);go_wp2_with fail;go_ret;exact⟨(by rw[HN.o];rfl),Y.o⟩
    | true=>
     go_wp2_with fail;go_roundw
     case rel=>exact⟨k+1,by have:=I.o;omega,by go_num,q_ ⟨Y.o,by rw[fd_,ac.o,Hq.o];rfl⟩⟩
     case measure=>simp[intOf];have:=I.o;omega
   ·have a2:¬(k:Int)<n:=by omega
    have ak:k=n:=by omega
    have HN:=q_ (show r=true from by rw[<-HR.o,<-ak];exact t.o.2);go_wp2_with fail;go_ret;exact⟨(by rw[HN.o];rfl),t.o.1⟩
 ·have am:¬((n:Int)=(m:Int)):=by omega
  rw[decide_eq_false a7,Bool.false_and];go_wp2_with fail;go_ret;exact⟨rfl,XV _ _⟩
theorem C4_ (cs ds:Nat->Array XZ) (q:Nat->Bool) (A B:Option Addr) (n m ca cb:Nat) (w:QV) (hn:n<=1000000000) (hA:ed_ w 7 A n cs) (hB:ed_ w 7 B m ds)
    (hF:∀i,i<n->i<m->∀W:QV,XU w.heap.size w W->Calls QW 219 #[.agg (cs i),.agg (ds i)] W (p_ (q i) W)) :
    Calls QW 218 #[QQ A n ca,QQ B m cb,.func (.func 219) #[] #[]] w (p_ (decide (n=m)&&(List.range n).all q) w):=by
 have HA:=q_ hA;have HB:=q_ hB;have HF:=q_ hF;unfold p_ at HF ⊢;clear hA hB hF;go_enter Tryz.func218,Tryz.ntmps218
 by_cases a7:n=m
 ·subst a7;rw[decide_eq_true rfl,Bool.true_and];obtain⟨r,HR⟩:=a_ ((List.range n).all q);rw[HR.o];go_wp2_with fail;go_loopw [17] (λT f=>∃k:Nat,k<=n/\T = QK QU (k:Nat)/\Q_ (XU w.heap.size w f/\(List.range k).all q=true)) (λT _=>n-(intOf T).toNat)
  case atStart=>exact⟨0,by omega,rfl,q_ ⟨XV _ _,rfl⟩⟩
  case round=>
   rename QV=>f
   obtain⟨k,hk,rfl,t⟩:=hrel;by_cases h:k<n
   ·have a1:(0:Int)<=k:=by omega
    have a2:(k:Int)<n:=by omega
    have w1:IntKind.i64.wrap ((k:Int)+1)=(k:Int)+1:=IntWalk.i64_in _ (by omega);have I:=q_ h;have Z:=q_ t.o.1;have ac:=q_ t.o.2;have ae:=q_ (HA.o.on t.o.1);have ah:=q_ (HB.o.on t.o.1);have a:=q_ (HF.o k h h);obtain⟨ad,rfl,_,u,P,M⟩:=HA.o.on t.o.1 k h;obtain⟨bd,rfl,a6,v,S,N⟩:=HB.o.on t.o.1 k h;obtain⟨c,Hc⟩:=a_ (cs k);obtain⟨d,Hd⟩:=a_ (ds k);obtain⟨qk,Hq⟩:=a_ (q k);rw[Hc.o]at u P M a;rw[Hd.o]at v S N a;rw[Hq.o]at a;have IC:=q_ (show (Tryz.prog.info? 69).map (·.size)=QJ c.size from Hk_.trans (congrArg QJ u.symm));have ID:=q_ (show (Tryz.prog.info? 69).map (·.size)=QJ d.size from Hk_.trans (congrArg QJ v.symm));have OC:=q_ P;have OD:=q_ S;have SC:=q_ (show c.size=(#[QZ ⟨#[]⟩,QK QU 0,XK false,QK QU 0,QZ ⟨#[]⟩,QZ ⟨#[]⟩,QQ QY 0 0]:Array XZ).size from u);have SD:=q_ (show d.size=(#[QZ ⟨#[]⟩,QK QU 0,XK false,QK QU 0,QZ ⟨#[]⟩,QZ ⟨#[]⟩,QQ QY 0 0]:Array XZ).size from v);have LC:=q_ (λj (O:j<c.size)=>(show f.cell? ((ad.add (k*7)).add j)=c[j]? from by rw[add_of_add];exact M j (by rw[u]at O;exact O)));have LD:=q_ (λ(W:QV) (hb:XU f.heap.size f W) j (O:j<d.size)=>(show W.cell? ((bd.add (k*7)).add j)=d[j]? from by rw[add_of_add,hb.cell (p:=bd.add (k*7+j)) (by rw[N_];exact a6)];exact N j (by rw[v]at O;exact O)));clear u v P S M N a6 t ae ah h;obtain⟨z,J⟩:=a_ f.heap.size;obtain⟨wa,x⟩:=a_ (f.alloc (XX #[QZ ⟨#[]⟩,QK QU 0,XK false,QK QU 0,QZ ⟨#[]⟩,QZ ⟨#[]⟩,QQ QY 0 0] 69));have af:=q_ (show XU f.heap.size f wa from by rw[<-x.o];exact (XV _ _).alloc (XJ _) _);have a0:=q_ (show wa.heap[z]?=QJ (XX #[QZ ⟨#[]⟩,QK QU 0,XK false,QK QU 0,QZ ⟨#[]⟩,QZ ⟨#[]⟩,QQ QY 0 0] 69 (0,0)) from by rw[<-x.o,<-J.o];exact heap_alloc_new f _)
    go_upto_region 6 with (first
     | ((with_reducible refine d_ (some 21) ?_);refine E_ (by rfl) 69 _ rfl rfl c _ LC.o Tryz.underlying69 rfl IC.o ?_)
     | ((with_reducible refine y_ 8 ?_);rw[x.o,J.o];refine r_ rfl 69 _ _ rfl z (#[QZ ⟨#[]⟩,QK QU 0,XK false,QK QU 0,QZ ⟨#[]⟩,QZ ⟨#[]⟩,QQ QY 0 0]) c 69 rfl rfl a0.o SC.o IC.o OC.o ?_;intro g aa a8))
    have a3:=q_ aa;have C:=q_ (show XU f.heap.size f g from i_ af.o a8 (λb e=>by have e:b=z:=e;have h2:f.heap.size=z:=J.o;omega));clear aa a8 x a0 LC;obtain⟨U,L⟩:=a_ g.heap.size;obtain⟨wc,y⟩:=a_ (g.alloc (XX #[QZ ⟨#[]⟩,QK QU 0,XK false,QK QU 0,QZ ⟨#[]⟩,QZ ⟨#[]⟩,QQ QY 0 0] 69));have ag:=q_ (show XU g.heap.size g wc from by rw[<-y.o];exact (XV _ _).alloc (XJ _) _);have a4:=q_ (show wc.heap[U]?=QJ (XX #[QZ ⟨#[]⟩,QK QU 0,XK false,QK QU 0,QZ ⟨#[]⟩,QZ ⟨#[]⟩,QQ QY 0 0] 69 (0,0)) from by rw[<-y.o,<-L.o];exact heap_alloc_new g _);have a5:=q_ (LD.o g C.o)
    go_upto_region 7 with (first
     | ((with_reducible refine d_ (some 25) ?_);refine E_ (by rfl) 69 _ rfl rfl d _ a5.o Tryz.underlying69 rfl ID.o ?_)
     | ((with_reducible refine y_ 9 ?_);rw[y.o,L.o];refine r_ rfl 69 _ _ rfl U (#[QZ ⟨#[]⟩,QK QU 0,XK false,QK QU 0,QZ ⟨#[]⟩,QZ ⟨#[]⟩,QQ QY 0 0]) d 69 rfl rfl a4.o SD.o ID.o OD.o ?_;intro we ab a9))
    have aj:=q_ ab;have X:=q_ (show XU g.heap.size g we from i_ ag.o a9 (λb e=>by have e:b=U:=e;have h2:g.heap.size=U:=L.o;omega));have ai:=q_ ((X.o.block z (b_ a3.o)).trans a3.o);have D:=q_ (show XU w.heap.size w we from Z.o.trans ((C.o.trans (X.o.mono C.o.size)).mono Z.o.size));clear ab a9 y a4 a5
    go_wp2_with (first
     | ((with_reducible refine d_ (some 27) ?_);refine x_ rfl 69 _ rfl z 0 rfl c _ (m_ ai.o) Tryz.underlying69 rfl IC.o ?_)
     | ((with_reducible refine d_ (some 28) ?_);refine x_ rfl 69 _ rfl U 0 rfl d _ (m_ aj.o) Tryz.underlying69 rfl ID.o ?_))
    refine (a.o we D.o).mono ?_;rintro e wf ⟨rfl,hb⟩;have Y:=q_ (D.o.trans (hb.mono D.o.size));clear hb a
    cases qk with
    | false=>
     have HN:=q_ (show r=false from by rw[<-HR.o];exact es_ I.o Hq.o);go_wp2_with fail;go_ret;exact⟨(by rw[HN.o];rfl),Y.o⟩
    | true=>
     go_wp2_with fail;go_roundw
     case rel=>exact⟨k+1,by have:=I.o;omega,by go_num,q_ ⟨Y.o,by rw[fd_,ac.o,Hq.o];rfl⟩⟩
     case measure=>simp[intOf];have:=I.o;omega
   ·have a2:¬(k:Int)<n:=by omega
    have ak:k=n:=by omega
    have HN:=q_ (show r=true from by rw[<-HR.o,<-ak];exact t.o.2);go_wp2_with fail;go_ret;exact⟨(by rw[HN.o];rfl),t.o.1⟩
 ·have am:¬((n:Int)=(m:Int)):=by omega
  rw[decide_eq_false a7,Bool.false_and];go_wp2_with fail;go_ret;exact⟨rfl,XV _ _⟩
theorem ih_ (p:G_) (s:XZ):∀i,i<6->(dc_ p s)[1+i]?=(c_ p.v s)[i]?:=by
 intro i hi;rcases i with _ | _ | _ | _ | _ | _ | i
 ·rfl
 ·rfl
 ·rfl
 ·rfl
 ·rfl
 ·rfl
 ·omega
theorem D0_ (p r:G_) (M:p.v.list=[]) (A B:Option Addr) (ca cb:Nat) (w:QV) :
    Calls QW 219 #[.agg (dc_ p (QQ A 0 ca)),.agg (dc_ r (QQ B r.v.list.length cb))] w (p_ (decide (p.key=r.key)&&c6_ p.v r.v) w):=by
 obtain⟨c,C⟩:=qn_ p (QQ A 0 ca);obtain⟨d,D⟩:=qn_ r (QQ B r.v.list.length cb);rw[C.o,D.o];obtain⟨z,h⟩:=a_ w.heap.size;obtain⟨w2,a⟩:=a_ ((w.alloc (XX c 69)).alloc (XX d 69));have b:=q_ (show XU w.heap.size w w2 from by rw[<-a.o];exact B_ w _ _);have j:=q_ (show w2.heap[z]?=some (XX c 69 (0,0)) from by rw[<-a.o,<-h.o];exact heap_alloc2_old w _ _);have k:=q_ (show w2.heap[z+1]?=some (XX d 69 (0,0)) from by rw[<-a.o,<-h.o];exact heap_alloc2_new w _ _);obtain⟨N,q⟩:=a_ p.key;obtain⟨O,x⟩:=a_ r.key;have Z:w2.cell? ⟨z,0,none⟩=some (QZ N):=(QX j.o 0).trans (by rw[<-C.o,<-q.o];rfl);have p1:w2.cell? ⟨z+1,0,none⟩=some (QZ O):=(QX k.o 0).trans (by rw[<-D.o,<-x.o];rfl);obtain⟨u,f⟩:=v_ p.v (QQ A 0 ca);obtain⟨v,g⟩:=v_ r.v (QQ B r.v.list.length cb);have S:=q_ (ad_.trans (congrArg some f.size.symm));have T:=q_ (ad_.trans (congrArg some g.size.symm));have U:=q_ (λi (hi:i<u.size)=>(show w2.cell? ((⟨z,1,none⟩:Addr).add i)=u[i]? from by rw[Addr.add_mid,cell_of_row w2 z (1+i) c _ _ j.o,<-f.o,<-C.o];exact ih_ p _ i (by rwa [f.size]at hi)));have X:=q_ (λi (hi:i<v.size)=>(show w2.cell? ((⟨z+1,1,none⟩:Addr).add i)=v[i]? from by rw[Addr.add_mid,cell_of_row w2 (z+1) (1+i) d _ _ k.o,<-g.o,<-D.o];exact ih_ r _ i (by rwa [g.size]at hi)));have J:=λW:QV=>Ee_ p.v r.v M A B ca cb W;rw[f.o,g.o]at J;have y:=q_ J;clear J M;obtain⟨t,P⟩:=a_ (c6_ p.v r.v);rw[P.o]at y ⊢;unfold p_ at y ⊢;rw[q.o,x.o];by_cases I:N=O
 ·subst I;rw[decide_eq_true rfl,Bool.true_and];go_enter Tryz.func219,Tryz.ntmps219
  go_upto_region 1 with fail;rw[a.o,h.o];clear a
  go_wp2_with (first
   | ((with_reducible refine d_ (some 12) ?_);refine E_ (by rfl) 39 _ rfl rfl u _ U.o YZ rfl S.o ?_)
   | ((with_reducible refine d_ (some 14) ?_);refine E_ (by rfl) 39 _ rfl rfl v _ X.o YZ rfl T.o ?_))
  refine (y.o _).mono ?_;rintro e x0 ⟨rfl,hb⟩;have L:=q_ (b.o.trans (hb.mono b.o.size));clear hb;go_wp2_with fail;go_ret;exact⟨rfl,L.o⟩
 ·rw[decide_eq_false I,Bool.false_and];have Y:=ba_ I;go_enter Tryz.func219,Tryz.ntmps219
  go_upto_region 1 with fail;rw[a.o,h.o];clear a;go_wp2_with fail;go_ret;exact⟨rfl,b.o⟩
theorem Cv_ (i s d J I D:Int) (t y:ByteArray) (A B:Option Addr) (n m ca cb:Nat) (w:QV) :
    Calls QW 142 #[.agg #[QK QU i,QK QU s,QK QU d,QZ t,QQ A n ca],.agg #[QK QU J,QK QU I,QK QU D,QZ y,QQ B m cb]] w (p_ (decide (i=J)&&decide (s=I)&&decide (d=D)&&decide (t=y)&&decide (n=0)&&decide (m=0)) w):=by
 obtain⟨z,C⟩:=a_ w.heap.size;obtain⟨w2,c⟩:=a_ ((w.alloc (XX #[QK QU i,QK QU s,QK QU d,QZ t,QQ A n ca] 74)).alloc (XX #[QK QU J,QK QU I,QK QU D,QZ y,QQ B m cb] 74));have e:=q_ (show XU w.heap.size w w2 from by rw[<-c.o];exact B_ w _ _);have a:=q_ (show w2.heap[z]?=some (XX #[QK QU i,QK QU s,QK QU d,QZ t,QQ A n ca] 74 (0,0)) from by rw[<-c.o,<-C.o];exact heap_alloc2_old w _ _);have b:=q_ (show w2.heap[z+1]?=some (XX #[QK QU J,QK QU I,QK QU D,QZ y,QQ B m cb] 74 (0,0)) from by rw[<-c.o,<-C.o];exact heap_alloc2_new w _ _);by_cases h0:i=J
 ·subst h0;by_cases h1:s=I
  ·subst h1;by_cases h2:d=D
   ·subst h2;by_cases L:t=y
    ·subst L;by_cases M:n=0
     ·subst M;by_cases N:m=0
      ·subst N;have f:=q_ (show true=(decide (i=i)&&decide (s=s)&&decide (d=d)&&decide (t=t)&&decide (0=0)&&decide (0=0)) from by simp);go_enter Tryz.func142,Tryz.ntmps142
       go_upto_region 1 with fail;rw[c.o,C.o];clear c;have g:=QX a.o 0;have h:=QX a.o 1;have j:=QX a.o 2;have k:=QX a.o 3;have p:=QX a.o 4;have q:=QX b.o 0;have r:=QX b.o 1;have u:=QX b.o 2;have v:=QX b.o 3;have x:=QX b.o 4;simp only[List.getElem?_toArray,List.getElem?_cons_zero,List.getElem?_cons_succ]at g h j k p q r u v x;go_wp2_with fail;go_ret
       first
        | exact A_ f.o e.o
        | exact A_ rfl e.o
      ·have f:=q_ (show false=(decide (i=i)&&decide (s=s)&&decide (d=d)&&decide (t=t)&&decide (0=0)&&decide (m=0)) from by simp[N]);have t5:((m:Int)==0)=false:=by simp;omega
       go_enter Tryz.func142,Tryz.ntmps142
       go_upto_region 1 with fail;rw[c.o,C.o];clear c;have g:=QX a.o 0;have h:=QX a.o 1;have j:=QX a.o 2;have k:=QX a.o 3;have p:=QX a.o 4;have q:=QX b.o 0;have r:=QX b.o 1;have u:=QX b.o 2;have v:=QX b.o 3;have x:=QX b.o 4;simp only[List.getElem?_toArray,List.getElem?_cons_zero,List.getElem?_cons_succ]at g h j k p q r u v x;go_wp2_with fail;go_ret
       first
        | exact A_ f.o e.o
        | exact A_ rfl e.o
     ·have f:=q_ (show false=(decide (i=i)&&decide (s=s)&&decide (d=d)&&decide (t=t)&&decide (n=0)&&decide (m=0)) from by simp[M]);have T:((n:Int)==0)=false:=by simp;omega
      go_enter Tryz.func142,Tryz.ntmps142
      go_upto_region 1 with fail;rw[c.o,C.o];clear c;have g:=QX a.o 0;have h:=QX a.o 1;have j:=QX a.o 2;have k:=QX a.o 3;have p:=QX a.o 4;have q:=QX b.o 0;have r:=QX b.o 1;have u:=QX b.o 2;have v:=QX b.o 3;have x:=QX b.o 4;simp only[List.getElem?_toArray,List.getElem?_cons_zero,List.getElem?_cons_succ]at g h j k p q r u v x;go_wp2_with fail;go_ret
      first
       | exact A_ f.o e.o
       | exact A_ rfl e.o
    ·have f:=q_ (show false=(decide (i=i)&&decide (s=s)&&decide (d=d)&&decide (t=y)&&decide (n=0)&&decide (m=0)) from by simp[L]);have S:=ba_ L;go_enter Tryz.func142,Tryz.ntmps142
     go_upto_region 1 with fail;rw[c.o,C.o];clear c;have g:=QX a.o 0;have h:=QX a.o 1;have j:=QX a.o 2;have k:=QX a.o 3;have p:=QX a.o 4;have q:=QX b.o 0;have r:=QX b.o 1;have u:=QX b.o 2;have v:=QX b.o 3;have x:=QX b.o 4;simp only[List.getElem?_toArray,List.getElem?_cons_zero,List.getElem?_cons_succ]at g h j k p q r u v x;go_wp2_with fail;go_ret
     first
      | exact A_ f.o e.o
      | exact A_ rfl e.o
   ·have f:=q_ (show false=(decide (i=i)&&decide (s=s)&&decide (d=D)&&decide (t=y)&&decide (n=0)&&decide (m=0)) from by simp[h2]);have y:(d==D)=false:=by simpa using h2
    go_enter Tryz.func142,Tryz.ntmps142
    go_upto_region 1 with fail;rw[c.o,C.o];clear c;have g:=QX a.o 0;have h:=QX a.o 1;have j:=QX a.o 2;have k:=QX a.o 3;have p:=QX a.o 4;have q:=QX b.o 0;have r:=QX b.o 1;have u:=QX b.o 2;have v:=QX b.o 3;have x:=QX b.o 4;simp only[List.getElem?_toArray,List.getElem?_cons_zero,List.getElem?_cons_succ]at g h j k p q r u v x;go_wp2_with fail;go_ret
    first
     | exact A_ f.o e.o
     | exact A_ rfl e.o
  ·have f:=q_ (show false=(decide (i=i)&&decide (s=I)&&decide (d=D)&&decide (t=y)&&decide (n=0)&&decide (m=0)) from by simp[h1]);have P:(s==I)=false:=by simpa using h1
   go_enter Tryz.func142,Tryz.ntmps142
   go_upto_region 1 with fail;rw[c.o,C.o];clear c;have g:=QX a.o 0;have h:=QX a.o 1;have j:=QX a.o 2;have k:=QX a.o 3;have p:=QX a.o 4;have q:=QX b.o 0;have r:=QX b.o 1;have u:=QX b.o 2;have v:=QX b.o 3;have x:=QX b.o 4;simp only[List.getElem?_toArray,List.getElem?_cons_zero,List.getElem?_cons_succ]at g h j k p q r u v x;go_wp2_with fail;go_ret
   first
    | exact A_ f.o e.o
    | exact A_ rfl e.o
 ·have f:=q_ (show false=(decide (i=J)&&decide (s=I)&&decide (d=D)&&decide (t=y)&&decide (n=0)&&decide (m=0)) from by simp[h0]);have O:(i==J)=false:=by simpa using h0
  go_enter Tryz.func142,Tryz.ntmps142
  go_upto_region 1 with fail;rw[c.o,C.o];clear c;have g:=QX a.o 0;have h:=QX a.o 1;have j:=QX a.o 2;have k:=QX a.o 3;have p:=QX a.o 4;have q:=QX b.o 0;have r:=QX b.o 1;have u:=QX b.o 2;have v:=QX b.o 3;have x:=QX b.o 4;simp only[List.getElem?_toArray,List.getElem?_cons_zero,List.getElem?_cons_succ]at g h j k p q r u v x;go_wp2_with fail;go_ret
  first
   | exact A_ f.o e.o
   | exact A_ rfl e.o
def i2_ (w:QV) (A:Option Addr) (l:List ByteArray):Prop:=∀i x,l[i]?=QJ x->∃ad,A=QJ ad/\ad.block<w.heap.size/\w.cell? (ad.add i)=QJ (QZ x)
theorem i2_.on {w w':QV} {A:Option Addr} {l:List ByteArray} (h:i2_ w A l) (hb:XU w.heap.size w w'):i2_ w' A l:=λi x a=>by
 obtain⟨ad,e,h1,h2⟩:=h i x a;exact⟨ad,e,XY h1 hb.size,by rw[hb.cell (p:=ad.add i) (by rw[N_];exact h1)];exact h2⟩
theorem Ku_ (l r:List ByteArray) (A B:Option Addr) (n m ca cb:Nat) (w:QV) (hl:l.length=n) (hr:r.length=m) (hn:n<=1000000000) (Y:i2_ w A l) (Z:i2_ w B r) :
    Calls QW 217 #[QQ A n ca,QQ B m cb] w (p_ (decide (l=r)) w):=by
 have N:=q_ Y;have P:=q_ Z;have I:=q_ hl;have J:=q_ hr;obtain⟨t,z⟩:=a_ (decide (l=r));rw[z.o];unfold p_;clear Y Z hl hr;go_enter Tryz.func217,Tryz.ntmps217
 by_cases D:n=m
 ·subst D;go_wp2_with fail;go_loopw [13] (λv c=>∃k:Nat,k<=n/\v = QK QU (k:Nat)/\Q_ (XU w.heap.size w c/\l.take k=r.take k)) (λv _=>n-(intOf v).toNat)
  case atStart=>exact⟨0,by omega,rfl,q_ ⟨XV _ _,rfl⟩⟩
  case round=>
   rename QV=>c
   obtain⟨k,hk,rfl,f⟩:=hrel;by_cases g:k<n
   ·have a1:(0:Int)<=k:=by omega
    have a2:(k:Int)<n:=by omega
    have w1:IntKind.i64.wrap ((k:Int)+1)=(k:Int)+1:=IntWalk.i64_in _ (by omega);have C:=q_ g;have d:=q_ f.o.1;have O:=q_ f.o.2;obtain⟨x,L⟩:∃x,l[k]?=some x:=⟨_,XQ (by rw[I.o];exact g)⟩;obtain⟨y,M⟩:∃y,r[k]?=some y:=⟨_,XQ (by rw[J.o];exact g)⟩;have j:=q_ L;have q:=q_ M;obtain⟨ad,rfl,_,pa⟩:=N.o.on f.o.1 k x L;obtain⟨u,rfl,_,pb⟩:=P.o.on f.o.1 k y M;have T:=q_ (λ(W:QV) (hb:XU c.heap.size c W)=>(show W.cell? (ad.add k)=some (QZ x) from by obtain⟨X,e,_,p⟩:=N.o.on (d.o.trans (hb.mono d.o.size)) k x j.o;injection e with e;rw[e];exact p));have U:=q_ (λ(W:QV) (hb:XU c.heap.size c W)=>(show W.cell? (u.add k)=some (QZ y) from by obtain⟨X,e,_,p⟩:=P.o.on (d.o.trans (hb.mono d.o.size)) k y q.o;injection e with e;rw[e];exact p));clear L M f g;by_cases h:x=y
    ·subst h;go_upto_region 6 with fail;refine wp_region_held_drew (S:=λW:QV=>XU c.heap.size c W) (by kernel_rfl) (XV _ _).drew λa=>?_;refine P_.o ?_;refine C_ 0 16 (QQ (QJ ad) n ca) a λa=>?_;refine C_ 1 17 (QK QU (k:Nat)) a λa=>?_;refine C_ 2 18 (YX (QJ (ad.add k))) a λa=>?_;refine tlW 3 19 (QZ x) a (λw b=>?_) λa=>?_
     ·have p:=T.o w b;unfold H_;go_simp
     refine C_ 4 20 (QQ (QJ u) n cb) a λa=>?_;refine C_ 5 21 (QK QU (k:Nat)) a λa=>?_;refine C_ 6 22 (YX (QJ (u.add k))) a λa=>?_;refine tlW 7 23 (QZ x) a (λw b=>?_) λa=>?_
     ·have p:=U.o w b;unfold H_;go_simp
     refine C_ 8 24 (XK false) a λa=>?_;refine⟨wpAnyH_done (by kernel_rfl) ?_ _⟩;clear a;go_wp2_with fail;go_roundw
     case rel=>exact⟨k+1,by have:=C.o;omega,by go_num,q_ ⟨d.o.drew,by rw[f_ j.o,f_ q.o,O.o]⟩⟩
     case measure=>simp[intOf];have:=C.o;omega
    ·have a0:=ba_ h;have i:=q_ (show t=false from by rw[<-z.o];refine decide_eq_false (λe=>h ?_);have h1:=j.o;rw[e,q.o]at h1;injection h1 with h1;exact h1.symm);clear h;go_upto_region 6 with fail;refine wp_region_held_drew (S:=λW:QV=>XU c.heap.size c W) (by kernel_rfl) (XV _ _).drew λa=>?_;refine P_.o ?_;refine C_ 0 16 (QQ (QJ ad) n ca) a λa=>?_;refine C_ 1 17 (QK QU (k:Nat)) a λa=>?_;refine C_ 2 18 (YX (QJ (ad.add k))) a λa=>?_;refine tlW 3 19 (QZ x) a (λw b=>?_) λa=>?_
     ·have p:=T.o w b;unfold H_;go_simp
     refine C_ 4 20 (QQ (QJ u) n cb) a λa=>?_;refine C_ 5 21 (QK QU (k:Nat)) a λa=>?_;refine C_ 6 22 (YX (QJ (u.add k))) a λa=>?_;refine tlW 7 23 (QZ y) a (λw b=>?_) λa=>?_
     ·have p:=U.o w b;unfold H_;go_simp
     refine C_ 8 24 (XK true) a λa=>?_;refine⟨wpAnyH_done (by kernel_rfl) ?_ _⟩;clear a;go_wp2_with fail;go_ret;exact⟨(by rw[i.o];rfl),d.o.drew⟩
   ·have a2:¬(k:Int)<n:=by omega
    have a3:k=n:=by omega
    have i:=q_ (show t=true from by rw[<-z.o];refine decide_eq_true ?_;have h1:=f.o.2;rwa [List.take_of_length_le (by rw[I.o];omega),List.take_of_length_le (by rw[J.o];omega)]at h1);go_wp2_with fail;go_ret;exact⟨(by rw[i.o];rfl),f.o.1⟩
 ·have a0:¬((n:Int)=(m:Int)):=by omega
  have i:=q_ (show t=false from by rw[<-z.o];exact decide_eq_false (λe=>D (by rw[<-I.o,<-J.o,e])));go_wp2_with fail;go_ret;exact⟨(by rw[i.o];rfl),XV _ _⟩
noncomputable def nj_ (p r:G_):Bool:=decide (p.key=r.key)&&c6_ p.v r.v
theorem Al_ {p r:G_}:nj_ p r=true↔p=r:=by
 unfold nj_;rw[YJ,decide_eq_true_eq,jk_]
 cases p
 cases r;simp
def at2 {α : Type} (f:α -> α -> Bool) (l r:List α) (i:Nat):Bool:=match l[i]?,r[i]? with | some x,some y=>f x y | _,_=>true
def ge_ {α : Type} (f:α -> α -> Bool) (l r:List α):Bool:=decide (l.length=r.length)&&(List.range l.length).all (at2 f l r)
theorem kr_ {α : Type} {f:α -> α -> Bool} {l r:List α} (a:∀x,x∈l->∀y,y∈r->(f x y=true↔x=y)):ge_ f l r=true↔l=r:=by
 unfold ge_;rw[YJ,decide_eq_true_eq,List.all_eq_true];constructor
 ·rintro⟨h1,h2⟩;refine List.ext_getElem? λi=>?_;by_cases hi:i<l.length
  ·have b:i<r.length:=by omega
   have h:=h2 i (List.mem_range.2 hi);unfold at2 at h;rw[XQ hi,XQ b]at h ⊢;rw[(a _ (List.getElem_mem hi) _ (List.getElem_mem b)).1 h]
  ·rw[List.getElem?_eq_none (by omega),List.getElem?_eq_none (by omega)]
 ·rintro rfl;refine⟨rfl,λi hi=>?_⟩;have hi:=List.mem_range.1 hi;unfold at2;rw[XQ hi];exact (a _ (List.getElem_mem hi) _ (List.getElem_mem hi)).2 rfl
noncomputable def fq_ (a b:h_):Bool:=decide (a.id=b.id)&&(decide (a.labels=b.labels)&&ge_ nj_ a.props b.props)
theorem q8_ {a b:h_}:fq_ a b=true↔a=b:=by
 unfold fq_;rw[YJ,YJ,decide_eq_true_eq,decide_eq_true_eq,kr_ λx _ y _=>Al_]
 cases a
 cases b;simp
theorem e7_ {α : Type} {R:bu_ α} {sz:Nat} {w:QV} {F:Nat->Prop} {l:List α} {A:Option Addr} {n:Nat} (h:SRd sz R w F l A n) (p:∀b,F b->b<w.heap.size) (k:∀x c,R w F x c->c.all (·.oneCell')=true) :
    ∃cs:Nat->Array XZ,ed_ w sz A n cs/\∀i x,l[i]?=QJ x->R w F x (cs i):=by
 have o:∀i,∃c:Array XZ,∀x,l[i]?=QJ x->(∃ad,A=QJ ad/\F ad.block/\c.size=sz/\(∀j,j<sz->w.cell? (ad.add (i*sz+j))=c[j]?))/\R w F x c:=λi=>by
  by_cases hi:i<l.length
  ·obtain⟨ad,c,e,g,h1,h2,f⟩:=h.at_ (XQ hi);refine⟨c,λx a=>?_⟩;rw[XQ hi]at a;injection a with a;exact⟨⟨ad,e,g,h1,h2⟩,a▸f⟩
  ·exact⟨#[],λx a=>by rw[List.getElem?_eq_none (by omega)]at a;cases a⟩
 obtain⟨cs,d⟩:=Classical.skolem.1 o;refine⟨cs,λi hi=>?_,λi x a=>(d i x a).2⟩;have hi:i<l.length:=by rw[<-h.1];exact hi
 obtain⟨⟨ad,e,g,h1,h2⟩,f⟩:=d i _ (XQ hi);exact⟨ad,e,p _ g,h1,k _ _ f,h2⟩
theorem yd_ {w:QV} {F:Nat->Prop} {l:List ByteArray} {A:Option Addr} {n:Nat} (h:SRd 1 TxR w F l A n) (d:∀b,F b->b<w.heap.size):i2_ w A l:=λi x g=>by
 obtain⟨ad,c,e,f,_,h2,a⟩:=h.at_ g;have a:c=#[QZ x]:=a;refine⟨ad,e,d _ f,?_⟩;have:=h2 0 (by omega);rw[Nat.mul_one,Nat.add_zero,a]at this;exact this
theorem iu_ {w:QV} {F:Nat->Prop} {p:G_} {c:Array XZ} (h:PaR w F p c):∃A b,c=dc_ p (QQ A p.v.list.length b):=by obtain⟨s,rfl,f⟩:=h;obtain⟨A,b,e,_⟩:=f.inv;refine⟨A,b,?_⟩;unfold c_ at e;injection e with e;have d:=congrArg (λa:Array XZ=>a[5]?) e;have d:QJ s=QJ (QQ A p.v.list.length b):=d;injection d with d;rw[d]
theorem Bu_ {w:QV} {F:Nat->Prop} {p:G_} {c:Array XZ} (h:PaR w F p c):c.all (·.oneCell')=true:=by obtain⟨A,a,rfl⟩:=iu_ h;kernel_rfl
theorem ta_ (a b:h_) (F G:Nat->Prop) (u v:Array XZ) (w:QV) (hF:∀g,F g->g<w.heap.size) (hG:∀g,G g->g<w.heap.size) (h1:NoR w F a u) (h2:NoR w G b v) (hn:a.labels.length<=1000000000/\a.props.length<=1000000000) (hl:∀p,p∈a.props->p.v.list=[]) :
    Calls QW 141 #[.agg u,.agg v] w (p_ (fq_ a b) w):=by
 obtain⟨_,_,rfl,⟨A,J,rfl,_,a1⟩,⟨B,L,rfl,_,a2⟩⟩:=h1;obtain⟨_,_,rfl,⟨C,M,rfl,_,a3⟩,⟨D,N,rfl,_,a4⟩⟩:=h2;obtain⟨cs,a6,a5⟩:=e7_ a2 hF λ_ _ h=>Bu_ h;obtain⟨ds,a8,a7⟩:=e7_ a4 hG λ_ _ h=>Bu_ h;have f:=q_ λ(W:QV) (hb:XU w.heap.size w W)=>Ku_ a.labels b.labels A C _ _ J M W rfl rfl hn.1 ((yd_ a1 hF).on hb) ((yd_ a3 hG).on hb)
 have j:=q_ (λ(W:QV) (hb:XU w.heap.size w W)=>C4_ cs ds (at2 nj_ a.props b.props) B D _ _ L N W hn.2 (a6.on hb) (a8.on hb) (λi hi hj W2 _=>by
  have e1:=XQ hi;have e2:=XQ hj;obtain⟨P,q,e3⟩:=iu_ (a5 i _ e1);obtain⟨Q,q',e4⟩:=iu_ (a7 i _ e2);have hz:=hl _ (List.getElem_mem hi);rw[hz]at e3;have:=D0_ a.props[i] b.props[i] hz P Q q q' W2;unfold at2;rw[e1,e2,e3,e4];exact this))
 obtain⟨i,Hi⟩:=a_ a.id;obtain⟨y,aa⟩:=a_ b.id;obtain⟨n1,X⟩:=a_ a.labels.length;obtain⟨n2,Y⟩:=a_ a.props.length;obtain⟨m1,T⟩:=a_ b.labels.length;obtain⟨m2,U⟩:=a_ b.props.length;obtain⟨x1,Z⟩:=a_ (decide (a.labels=b.labels));obtain⟨x2,a0⟩:=a_ (ge_ nj_ a.props b.props);unfold fq_;rw[Z.o]at f;have O:=q_ (show (decide (a.props.length=b.props.length)&&(List.range a.props.length).all (at2 nj_ a.props b.props))=x2 from a0.o);rw[O.o]at j;rw[X.o,T.o]at f;rw[Y.o,U.o]at j;rw[Z.o,a0.o,Hi.o,aa.o,X.o,Y.o,T.o,U.o];clear a1 a2 a3 a4 a6 a5 a8 a7 hl hn hF hG O;obtain⟨z,I⟩:=a_ w.heap.size;obtain⟨w2,c⟩:=a_ ((w.alloc (XX #[QK QU i,QQ A n1 J,QQ B n2 L] 72)).alloc (XX #[QK QU y,QQ C m1 M,QQ D m2 N] 72));have d:=q_ (show XU w.heap.size w w2 from by rw[<-c.o];exact B_ w _ _);have k:=q_ (show w2.heap[z]?=some (XX #[QK QU i,QQ A n1 J,QQ B n2 L] 72 (0,0)) from by rw[<-c.o,<-I.o];exact heap_alloc2_old w _ _);have t:=q_ (show w2.heap[z+1]?=some (XX #[QK QU y,QQ C m1 M,QQ D m2 N] 72 (0,0)) from by rw[<-c.o,<-I.o];exact heap_alloc2_new w _ _);have p0:w2.cell? ⟨z,0,none⟩=some (QK QU i):=QX k.o 0;have q0:w2.cell? ⟨z+1,0,none⟩=some (QK QU y):=QX t.o 0;unfold p_ at f j;by_cases hi:i=y
 ·subst hi;rw[decide_eq_true rfl,Bool.true_and];obtain⟨r,Hr⟩:=a_ (x1&&x2);rw[Hr.o];have p1:w2.cell? ⟨z,1,QY⟩=QJ (QQ A n1 J):=QX k.o 1;have q1:w2.cell? ⟨z+1,1,QY⟩=QJ (QQ C m1 M):=QX t.o 1;unfold p_;go_enter Tryz.func141,Tryz.ntmps141
  go_upto_region 1 with fail;rw[c.o,I.o];clear c;go_wp2_with fail;refine (f.o w2 d.o).mono ?_;rintro e x0 ⟨rfl,hb⟩;have S:=q_ hb;have x:=q_ (d.o.trans (hb.mono d.o.size));clear hb
  cases x1 with
  | false=>
   have HN:=q_ (show false=r from Hr.o);go_wp2_with fail;go_ret;exact⟨(by rw[<-HN.o];rfl),x.o⟩
  | true=>
   have HN:=q_ (show x2=r from Hr.o);have p2:x0.cell? ⟨z,2,QY⟩=QJ (QQ B n2 L):=(S.o.cell (b_ k.o)).trans (QX k.o 2);have q2:x0.cell? ⟨z+1,2,QY⟩=QJ (QQ D m2 N):=(S.o.cell (b_ t.o)).trans (QX t.o 2);go_wp2_with fail;refine (j.o x0 x.o).mono ?_;rintro e x5 ⟨rfl,hb⟩;have a9:=q_ (x.o.trans (hb.mono x.o.size));clear hb;go_wp2_with fail;go_ret;exact⟨(by rw[<-HN.o];rfl),a9.o⟩
 ·rw[decide_eq_false hi,Bool.false_and];have t3:(i==y)=false:=by simpa using hi
  unfold p_;go_enter Tryz.func141,Tryz.ntmps141
  go_upto_region 1 with fail;rw[c.o,I.o];clear c;go_wp2_with fail;go_ret;exact⟨rfl,d.o⟩
def nh_ (x y:l_):Bool:=decide (x.id=y.id)&&decide (x.src=y.src)&&decide (x.dst=y.dst)&&decide (x.type=y.type)&&decide (x.props.length=0)&&decide (y.props.length=0)
theorem Ai_ {x y:l_} (d:x.props=[]):nh_ x y=true↔x=y:=by
 unfold nh_;simp only[YJ,decide_eq_true_eq,List.length_eq_zero_iff]
 cases x
 cases y;simp only at d;subst d;simp only[l_.mk.injEq];constructor
 ·rintro⟨⟨⟨⟨⟨h1,h2⟩,a⟩,b⟩,_⟩,c⟩;exact⟨h1,h2,a,b,c.symm⟩
 ·rintro⟨h1,h2,a,b,c⟩;exact⟨⟨⟨⟨⟨h1,h2⟩,a⟩,b⟩,trivial⟩,c.symm⟩
noncomputable def ni_ (g h:w_):Bool:=ge_ fq_ g.nodes h.nodes&&ge_ nh_ g.edges h.edges
theorem Aj_ {g h:w_} (a:∀e,e∈g.edges->e.props=[]):ni_ g h=true↔g=h:=by
 unfold ni_;rw[YJ,kr_ λx _ y _=>q8_,kr_ λx b y _=>Ai_ (a x b)]
 cases g
 cases h;simp
theorem ut_ {w:QV} {F:Nat->Prop} {x:h_} {c:Array XZ} (h:NoR w F x c):c.all (·.oneCell')=true:=by obtain⟨_,_,rfl,⟨_,_,rfl,_⟩,⟨_,_,rfl,_⟩⟩:=h;kernel_rfl
theorem ud_ {w:QV} {F:Nat->Prop} {x:l_} {c:Array XZ} (h:EdR w F x c):c.all (·.oneCell')=true:=by obtain⟨_,rfl,⟨_,_,rfl,_⟩⟩:=h;kernel_rfl
theorem p5_ {w:QV} {F:Nat->Prop} {x:l_} {c:Array XZ} (h:EdR w F x c):∃A a,c=#[QK QU x.id,QK QU x.src,QK QU x.dst,QZ x.type,QQ A x.props.length a]:=by obtain⟨_,rfl,⟨A,a,rfl,_⟩⟩:=h;exact⟨A,a,rfl⟩
theorem zk_ (g h:w_) (F G:Nat->Prop) (u v:XZ) (w:QV) (d:∀b,F b->b<w.heap.size) (f:∀b,G b->b<w.heap.size) (h1:GrR w F g u) (h2:GrR w G h v) (hn:g.nodes.length<=1000000000/\g.edges.length<=1000000000)
    (hl:∀n,n∈g.nodes->n.labels.length<=1000000000/\n.props.length<=1000000000/\∀p,p∈n.props->p.v.list=[]) :
    Calls QW 79 #[u,v] w (p_ (ni_ g h) w):=by
 obtain⟨_,_,rfl,⟨t,L,rfl,_,a7⟩,⟨x,M,rfl,_,a8⟩⟩:=h1;obtain⟨_,_,rfl,⟨y,N,rfl,_,a9⟩,⟨A,O,rfl,_,a⟩⟩:=h2
 have D:=q_ (show ∀W:QV,XU w.heap.size w W->Calls QW 143 #[QQ t g.nodes.length L,QQ y h.nodes.length N,.func (.func 141) #[] #[]] W (p_ (ge_ fq_ g.nodes h.nodes) W) from λW hb=>by
  obtain⟨cs,X,U⟩:=e7_ (a7.under NoR.good hb d) (λb k=>XY (d b k) hb.size) λ_ _ h=>ut_ h;obtain⟨ds,Z,Y⟩:=e7_ (a9.under NoR.good hb f) (λb k=>XY (f b k) hb.size) λ_ _ h=>ut_ h;refine C3_ cs ds (at2 fq_ g.nodes h.nodes) t y _ _ L N W hn.1 X Z (λi hi hj W2 a=>?_);have S:=XQ hi;have T:=XQ hj;have hz:=hl _ (List.getElem_mem hi);have:=ta_ g.nodes[i] h.nodes[i] F G (cs i) (ds i) W2 (λb k=>XY (d b k) (hb.trans (a.mono hb.size)).size) (λb k=>XY (f b k) (hb.trans (a.mono hb.size)).size) (NoR.good.keep (U i _ S) (λp hp=>a.cell (XY (d _ hp) hb.size))) (NoR.good.keep (Y i _ T) (λp hp=>a.cell (XY (f _ hp) hb.size))) ⟨hz.1,hz.2.1⟩ hz.2.2;unfold at2;rw[S,T];exact this)
 have C:=q_ (show ∀W:QV,XU w.heap.size w W->Calls QW 144 #[QQ x g.edges.length M,QQ A h.edges.length O,.func (.func 142) #[] #[]] W (p_ (ge_ nh_ g.edges h.edges) W) from λW hb=>by
  obtain⟨cs,X,U⟩:=e7_ (a8.under EdR.good hb d) (λb k=>XY (d b k) hb.size) λ_ _ h=>ud_ h;obtain⟨ds,Z,Y⟩:=e7_ (a.under EdR.good hb f) (λb k=>XY (f b k) hb.size) λ_ _ h=>ud_ h;refine C2_ cs ds (at2 nh_ g.edges h.edges) x A _ _ M O W hn.2 X Z (λi hi hj W2 a=>?_);have S:=XQ hi;have T:=XQ hj;obtain⟨P,q,e3⟩:=p5_ (U i _ S);obtain⟨Q,q',e4⟩:=p5_ (Y i _ T);unfold at2;rw[S,T,e3,e4];exact Cv_ _ _ _ _ _ _ _ _ _ _ _ _ _ _ W2)
 unfold ni_;obtain⟨n1,a3⟩:=a_ g.nodes.length;obtain⟨n2,a4⟩:=a_ g.edges.length;obtain⟨m1,a1⟩:=a_ h.nodes.length;obtain⟨m2,a2⟩:=a_ h.edges.length;obtain⟨x1,a5⟩:=a_ (ge_ fq_ g.nodes h.nodes);obtain⟨x2,a6⟩:=a_ (ge_ nh_ g.edges h.edges);rw[a5.o,a3.o,a1.o]at D;rw[a6.o,a4.o,a2.o]at C;rw[a5.o,a6.o,a3.o,a4.o,a1.o,a2.o];clear a7 a8 a9 a hl hn d f;obtain⟨z,Hz⟩:=a_ w.heap.size;obtain⟨w2,c⟩:=a_ ((w.alloc (XX #[QQ t n1 L,QQ x n2 M] 54)).alloc (XX #[QQ y m1 N,QQ A m2 O] 54));have B:=q_ (show XU w.heap.size w w2 from by rw[<-c.o];exact B_ w _ _);have I:=q_ (show w2.heap[z]?=QJ (XX #[QQ t n1 L,QQ x n2 M] 54 (0,0)) from by rw[<-c.o,<-Hz.o];exact heap_alloc2_old w _ _);have J:=q_ (show w2.heap[z+1]?=QJ (XX #[QQ y m1 N,QQ A m2 O] 54 (0,0)) from by rw[<-c.o,<-Hz.o];exact heap_alloc2_new w _ _);have p0:w2.cell? ⟨z,0,QY⟩=QJ (QQ t n1 L):=QX I.o 0;have q0:w2.cell? ⟨z+1,0,QY⟩=QJ (QQ y m1 N):=QX J.o 0;obtain⟨r,Hr⟩:=a_ (x1&&x2);rw[Hr.o];unfold p_ at D C ⊢;go_enter Tryz.func79,Tryz.ntmps79
 go_upto_region 1 with fail;rw[c.o,Hz.o];clear c;go_wp2_with fail;refine (D.o w2 B.o).mono ?_;rintro e x0 ⟨rfl,hb⟩;have a0:=q_ hb;have j:=q_ (B.o.trans (hb.mono B.o.size));clear hb
 cases x1 with
 | false=>
  have HN:=q_ (show false=r from Hr.o);go_wp2_with fail;go_ret;exact⟨(by rw[<-HN.o];rfl),j.o⟩
 | true=>
  have HN:=q_ (show x2=r from Hr.o);have p2:x0.cell? ⟨z,1,QY⟩=QJ (QQ x n2 M):=(a0.o.cell (b_ I.o)).trans (QX I.o 1);have q2:x0.cell? ⟨z+1,1,QY⟩=QJ (QQ A m2 O):=(a0.o.cell (b_ J.o)).trans (QX J.o 1);go_wp2_with fail;refine (C.o x0 j.o).mono ?_;rintro e x5 ⟨rfl,hb⟩;have aa:=q_ (j.o.trans (hb.mono j.o.size));clear hb;go_wp2_with fail;go_ret;exact⟨(by rw[<-HN.o];rfl),aa.o⟩
end
section
open Go Go.RowKit Go.Maps Go.WideMaps
def al_ (s:ByteArray):Bool:=decide (1<=s.size/\s.size<=1048576)
theorem u9_ (s:ByteArray) (w:QV):Calls QW 87 #[QZ s] w λe w'=>e = XW (XK (al_ s))/\w'=w:=by
 have c:al_ s=decide (1<=s.size/\s.size<=1048576):=rfl;generalize al_ s=r at c ⊢;have b:=q_ c;clear c;by_cases h1:1<=s.size
 ·by_cases h2:s.size<=1048576
  ·have d:decide ((1:Int)<=s.size)=true:=decide_eq_true (by omega);have f:decide ((s.size:Int)<=1048576)=true:=decide_eq_true (by omega);have a:r=true:=by rw[b.o];exact decide_eq_true ⟨h1,h2⟩
   clear h1 h2;go_enter Tryz.func87,Tryz.ntmps87
   go_wp2
   go_ret;exact⟨by rw[a];rfl,rfl⟩
  ·have d:decide ((1:Int)<=s.size)=true:=decide_eq_true (by omega);have f:decide ((s.size:Int)<=1048576)=false:=decide_eq_false (by omega);have a:r=false:=by rw[b.o];exact decide_eq_false λh=>h2 h.2
   clear h1 h2;go_enter Tryz.func87,Tryz.ntmps87
   go_wp2
   go_ret;exact⟨by rw[a];rfl,rfl⟩
 ·have d:decide ((1:Int)<=s.size)=false:=decide_eq_false (by omega);have a:r=false:=by rw[b.o];exact decide_eq_false λh=>h1 h.1
  clear h1;go_enter Tryz.func87,Tryz.ntmps87
  go_wp2
  go_ret;exact⟨by rw[a];rfl,rfl⟩
def d1_ (a b:Int):Int:=if a<b then -1 else if b<a then 1 else 0
theorem xb_ (a b:Int) (w:QV):Calls QW 96 #[QK QU a,QK QU b] w λe w'=>e = XW (QK QU (d1_ a b))/\w'=w:=by
 by_cases h1:a<b
 ·have c:=q_ (show d1_ a b = -1 from if_pos h1);generalize d1_ a b=r at c ⊢;have d:decide (a<b)=true:=decide_eq_true h1;clear h1;go_enter Tryz.func96,Tryz.ntmps96
  go_wp2
  go_ret;exact⟨by rw[c.o];rfl,rfl⟩
 ·by_cases h2:b<a
  ·have c:=q_ (show d1_ a b=1 from (if_neg h1).trans (if_pos h2));generalize d1_ a b=r at c ⊢;have d:decide (a<b)=false:=decide_eq_false h1;have f:decide (b<a)=true:=decide_eq_true h2;clear h1 h2;go_enter Tryz.func96,Tryz.ntmps96
   go_wp2
   go_ret;exact⟨by rw[c.o];rfl,rfl⟩
  ·have c:=q_ (show d1_ a b=0 from (if_neg h1).trans (if_neg h2));generalize d1_ a b=r at c ⊢;have d:decide (a<b)=false:=decide_eq_false h1;have f:decide (b<a)=false:=decide_eq_false h2;clear h1 h2;go_enter Tryz.func96,Tryz.ntmps96
   go_wp2
   go_ret;exact⟨by rw[c.o];rfl,rfl⟩
def VI (x:Int):Prop:=(Lit.int .i64 x).wf=true
def iq_ (x:Int):Lit:=.int .i64 x
theorem ww_:∀x y:Int,VI x->VI y->iq_ x=iq_ y->x=y:=λx y _ _ h=>by
 unfold iq_ at h;injection h
theorem wx_:∀x:Int,VI x->WideAt.IsKeyLit (iq_ x):=λ_ _=>trivial
theorem uq_:Keyed QW 2:=int_keyed Tryz.underlying2
theorem yo_ (w:QV):(zeroValue 207).run QW w = .ok (.agg #[]) w:=by kernel_rfl
def inB {K:Type} [DecidableEq K] (ks:List K) (x:K):Bool:=decide (x∈ks)
theorem ci_ {K:Type} [DecidableEq K] {ks:List K} {x:K} (h:x∈ks):inB ks x=true:=by unfold inB;exact decide_eq_true h
theorem g9_ {K:Type} [DecidableEq K] {ks:List K} {x:K} (h:x∉ks):inB ks x=false:=by unfold inB;exact decide_eq_false h
def a9_ {K:Type} [DecidableEq K] (kt:TypeId) (V:K->Prop) (lit:K->Lit) (w:QV) (m:Nat) (ks:List K):Prop:=
 ∃D:DataW Unit,w.ownsMap QW kt (unitElem (H:=Unit)) m ks.length D/\∀x,V x->Maps.has D (lit x)=inB ks x
def fs_ {K:Type} [DecidableEq K] (ks:List K) (x:K):List K:=if inB ks x=true then ks else ks++[x]
section
variable {K:Type} [DecidableEq K] {kt:TypeId} {V:K->Prop} {lit:K->Lit} {w w':QV} {m:Nat} {ks:List K}
theorem a9_.turn (h:a9_ kt V lit w m ks) {S:Nat->Prop} (ht:Turn S w w') (a:¬S m):a9_ kt V lit w' m ks:=by obtain⟨D,h1,h2⟩:=h;exact⟨D,ht.map h1 a,h2⟩
theorem a9_.lt (h:a9_ kt V lit w m ks):m<w.heap.size:=by obtain⟨D,⟨b,a,hb,_⟩,_⟩:=h;exact b_ hb
theorem a9_.below (h:a9_ kt V lit w m ks) (hb:XU w.heap.size w w'):a9_ kt V lit w' m ks:=h.turn (Turn.of_below hb) (λa=>by have:=h.lt;omega)
theorem a9_.made (kt:TypeId) (V:K->Prop) (lit:K->Lit) (w:QV):a9_ kt V lit (w.alloc (.map #[] 0)) w.heap.size ([]:List K):=
 ⟨.map [],World.ownsMap_made w _ _ _,λ_ _=>rfl⟩
theorem a9_.put (hi:∀x y,V x->V y->lit x=lit y->x=y) (f:∀x,V x->WideAt.IsKeyLit (lit x)) {D:DataW Unit} (c:∀x,V x->Maps.has D (lit x)=inB ks x) (g:IsMap D)
    {x:K} (a:V x) {d:DataW Unit}:∀y,V y->Maps.has (D.put (lit x) d) (lit y)=inB (ks++[x]) y:=λy b=>by
 by_cases e:y=x
 ·subst e;rw[has_put_same g (f _ a),ci_ (by simp)]
 ·rw[has_put_other (λh=>e (hi _ _ b a h)),c y b];unfold inB;simp[e]
def Fj_ (kt:TypeId) (V:K->Prop) (lit:K->Lit) (m:Nat) (ks:List K) (x:K) (w:QV) (e:Ending) (w':QV):Prop:=
 e = XW (XK (!inB ks x))/\a9_ kt V lit w' m (fs_ ks x)/\Turn (λb=>b=m) w w'
def Fe_ (ks:List K) (x:K) (w:QV) (e:Ending) (w':QV):Prop:=e = XW (XK (inB ks x))/\XU w.heap.size w w'
end
theorem Ky_ (m:Nat) (ks:List ByteArray) (x:ByteArray) (b:VS x) (w:QV) (h:a9_ 9 VS jv_ w m ks) :
    Calls QW 148 #[.map (QJ m),QZ x] w (Fe_ ks x w):=by
 obtain⟨D,h1,h2⟩:=h;have a:=keyOf_string_mk Tryz.underlying9 b;have c:=q_ (show Maps.has D (.string x.data.toList)=inB ks x from h2 x b);generalize hr:inB ks x=r at c;have d:=q_ hr;clear h2 b hr;go_enter Tryz.func148,Tryz.ntmps148
 go_wp2_with (at_lookup;refine wpList_lookup_own_unit _ rfl _ _ 147 rfl 9 207 Hz_ Tryz.underlying147 (yo_ _) m _ D rfl h1 _ _ rfl a ?_;rw[c.o])
 go_ret;exact⟨by rw[d.o];rfl,by repeat (first | exact XV _ _ | refine Below.alloc ?_ (by simp) _)⟩
theorem Bw_ (m:Nat) (ks:List ByteArray) (x:ByteArray) (d:VS x) (v:ks.length<=100000000) (w:QV) (h:a9_ 9 VS jv_ w m ks) :
    Calls QW 88 #[.map (QJ m),QZ x] w (Fj_ 9 VS jv_ m ks x w):=by
 have k:=q_ (Ky_ m ks x d w h);have p:=q_ h;have g:=keyOf_string_mk Tryz.underlying9 d;have t:=q_ d;clear h d;by_cases a:x∈ks
 ·have f:=q_ a;have b:=q_ (ci_ a);clear a;go_enter Tryz.func88,Tryz.ntmps88
  go_wp2_with fail;refine k.o.mono ?_;rintro e u ⟨rfl,hb⟩;have c:=q_ hb;rw[b.o];clear hb;go_wp2_with fail;go_ret;refine⟨by rw[b.o];rfl,?_,?_⟩
  ·unfold fs_;rw[if_pos (ci_ f.o)];exact p.o.below c.o
  ·exact (Turn.of_below c.o).mono (λi hi h=>by omega)
 ·have f:=q_ a;have b:=q_ (g9_ a);clear a;go_enter Tryz.func88,Tryz.ntmps88
  go_wp2_with fail;refine k.o.mono ?_;rintro e u ⟨rfl,hb⟩;have c:=q_ hb;rw[b.o];obtain⟨D,h1,h2⟩:=p.o.below hb;have r:=q_ h2;clear hb h2;go_wp2_with (at_mapUpdate;refine wpList_mapUpdate_own _ rfl _ _ _ 147 rfl 9 207 Hz_ Tryz.underlying147 (unitElem (H:=Unit)) m _ D rfl h1 (by unfold maxLen;omega) _ _ _ rfl rfl g _ _ unitElem_mk ?_;intro w2 j q)
  go_ret;refine⟨by rw[b.o];rfl,?_,?_⟩
  ·unfold fs_;rw[if_neg (by rw[g9_ f.o];decide)];exact⟨_,by rw[List.length_append];exact j,a9_.put wy_ qe_ r.o h1.isMap t.o⟩
  ·exact ((Turn.of_below c.o).mono (λi hi h=>by omega)).trans ((Turn.of_grown q).mono (λi _ h=>by injection h))
theorem um_ (m:Nat) (ks:List Int) (x:Int) (b:VI x) (w:QV) (h:a9_ 2 VI iq_ w m ks) :
    Calls QW 92 #[.map (QJ m),QK QU x] w (Fe_ ks x w):=by
 obtain⟨D,h1,h2⟩:=h;have a:=keyOf_int_mk Tryz.underlying2 b;have c:=q_ (show Maps.has D (.int .i64 x)=inB ks x from h2 x b);generalize hr:inB ks x=r at c;have d:=q_ hr;clear h2 b hr;go_enter Tryz.func92,Tryz.ntmps92
 go_wp2_with (at_lookup;refine wpList_lookup_own_unit _ rfl _ _ 145 rfl 2 207 uq_ Tryz.underlying145 (yo_ _) m _ D rfl h1 _ _ rfl a ?_;rw[c.o])
 go_ret;exact⟨by rw[d.o];rfl,by repeat (first | exact XV _ _ | refine Below.alloc ?_ (by simp) _)⟩
theorem Bv_ (m:Nat) (ks:List Int) (x:Int) (d:VI x) (v:ks.length<=100000000) (w:QV) (h:a9_ 2 VI iq_ w m ks) :
    Calls QW 89 #[.map (QJ m),QK QU x] w (Fj_ 2 VI iq_ m ks x w):=by
 have k:=q_ (um_ m ks x d w h);have p:=q_ h;have g:=keyOf_int_mk Tryz.underlying2 d;have t:=q_ d;clear h d;by_cases a:x∈ks
 ·have f:=q_ a;have b:=q_ (ci_ a);clear a;go_enter Tryz.func89,Tryz.ntmps89
  go_wp2_with fail;refine k.o.mono ?_;rintro e u ⟨rfl,hb⟩;have c:=q_ hb;rw[b.o];clear hb;go_wp2_with fail;go_ret;refine⟨by rw[b.o];rfl,?_,?_⟩
  ·unfold fs_;rw[if_pos (ci_ f.o)];exact p.o.below c.o
  ·exact (Turn.of_below c.o).mono (λi hi h=>by omega)
 ·have f:=q_ a;have b:=q_ (g9_ a);clear a;go_enter Tryz.func89,Tryz.ntmps89
  go_wp2_with fail;refine k.o.mono ?_;rintro e u ⟨rfl,hb⟩;have c:=q_ hb;rw[b.o];obtain⟨D,h1,h2⟩:=p.o.below hb;have r:=q_ h2;clear hb h2;go_wp2_with (at_mapUpdate;refine wpList_mapUpdate_own _ rfl _ _ _ 145 rfl 2 207 uq_ Tryz.underlying145 (unitElem (H:=Unit)) m _ D rfl h1 (by unfold maxLen;omega) _ _ _ rfl rfl g _ _ unitElem_mk ?_;intro w2 j q)
  go_ret;refine⟨by rw[b.o];rfl,?_,?_⟩
  ·unfold fs_;rw[if_neg (by rw[g9_ f.o];decide)];exact⟨_,by rw[List.length_append];exact j,a9_.put ww_ wx_ r.o h1.isMap t.o⟩
  ·exact ((Turn.of_below c.o).mono (λi hi h=>by omega)).trans ((Turn.of_grown q).mono (λi _ h=>by injection h))
end
section
open Go Go.RowKit
def O_ (v:g_):Bool:=z_ v 0&&(v.kind==1 || (v.kind==2 || (v.kind==3 || v.kind==4)))
theorem q9_ (v:g_) (U:M_ v<=10000000000000000) (F:Nat->Prop) (u:XZ) (w:QV) (B:∀g,F g->g<w.heap.size) (D:VRd w F v u) (p:aa_ w) :
    Calls QW 149 #[u] w (p_ (O_ v) w):=by
 obtain⟨A,I,W,C,T⟩:=D.inv;have d:=q_ (λo:Obj=>d7_ v U F u (w.alloc o) (λg p=>by have:=B g p;simp;omega) (D.under ((XV _ _).alloc (XJ _) _) B) (k_ p ((XV _ _).alloc (XJ _) _)));subst W;have a:=q_ (show O_ v=(z_ v 0&&(v.kind==1 || (v.kind==2 || (v.kind==3 || v.kind==4)))) from rfl);obtain⟨s,O⟩:=a_ (Value.slice A v.list.length I);obtain⟨i,r⟩:=a_ (O_ v);obtain⟨X,q⟩:=a_ (z_ v 0);rw[q.o]at d a;rw[r.o]at a ⊢;rw[O.o]at d ⊢;clear T C p q r
 cases v with
 | mk k b n t x l=>
 unfold c_ at d ⊢;simp only[g_.kind,g_.truth,g_.num,g_.text,g_.extra]at d a ⊢;clear D B;obtain⟨z,P⟩:=a_ w.heap.size;go_enter Tryz.func149,Tryz.ntmps149
 go_wp2_with fail;refine (d.o _).mono ?_;rintro e Y ⟨rfl,hb⟩;have f:=q_ (((XV w.heap.size w).alloc (XJ _) (XX #[QK QU k,XK b,QK QU n,QZ t,QZ x,s] 39)).trans (hb.mono (by simp)));have y:=(hb.block w.heap.size (by simp)).trans (heap_alloc_new w (XX #[QK QU k,XK b,QK QU n,QZ t,QZ x,s] 39));have S:Y.cell? ⟨w.heap.size,0,QY⟩=QJ (QK QU k):=QX y 0;clear hb y d;rw[P.o]at S ⊢
 cases X with
 | false=>
  have c:=q_ (show i=false from a.o);go_wp2_with fail;go_ret;exact⟨by rw[c.o];rfl,f.o⟩
 | true=>
  by_cases h1:k=1
  ·have c:=q_ (show i=true from by rw[a.o,h1];rfl);have J:(k==1)=true:=by rw[h1];rfl
   clear h1;go_wp2_with fail;go_ret;exact⟨by rw[c.o];rfl,f.o⟩
  ·have J:(k==1)=false:=by simp[h1]
   by_cases h2:k=2
   ·have c:=q_ (show i=true from by rw[a.o,h2];rfl);have L:(k==2)=true:=by rw[h2];rfl
    clear h1 h2;go_wp2_with fail;go_ret;exact⟨by rw[c.o];rfl,f.o⟩
   ·have L:(k==2)=false:=by simp[h2]
    by_cases h:k=3
    ·have c:=q_ (show i=true from by rw[a.o,h];rfl);have M:(k==3)=true:=by rw[h];rfl
     clear h1 h2 h;go_wp2_with fail;go_ret;exact⟨by rw[c.o];rfl,f.o⟩
    ·have M:(k==3)=false:=by simp[h]
     by_cases j:k=4
     ·have c:=q_ (show i=true from by rw[a.o,j];rfl);have N:(k==4)=true:=by rw[j];rfl
      clear h1 h2 h j;go_wp2_with fail;go_ret;exact⟨by rw[c.o];rfl,f.o⟩
     ·have N:(k==4)=false:=by simp[j]
      have c:=q_ (show i=false from by rw[a.o,J,L,M,N];rfl);clear h1 h2 h j;go_wp2_with fail;go_ret;exact⟨by rw[c.o];rfl,f.o⟩
theorem x1_ (v:g_) (y:M_ v<=10000000000000000) (F:Nat->Prop) (u:XZ) (w:QV) (f:∀g,F g->g<w.heap.size) (i:VRd w F v u) (c:aa_ w) :
    Calls QW 151 #[u] w (p_ (!O_ v) w):=by
 obtain⟨A,j,z,h,r⟩:=i.inv;have a:=q_ (λo:Obj=>q9_ v y F u (w.alloc o) (λg c=>by have:=f g c;simp;omega) (i.under ((XV _ _).alloc (XJ _) _) f) (k_ c ((XV _ _).alloc (XJ _) _)));subst z;obtain⟨s,q⟩:=a_ (Value.slice A v.list.length j);obtain⟨B,d⟩:=a_ (O_ v);rw[d.o]at a;rw[d.o];rw[q.o]at a ⊢;clear r h c
 cases v with
 | mk k b n t x l=>
 unfold c_ at a ⊢;simp only[g_.kind,g_.truth,g_.num,g_.text,g_.extra]at a ⊢;clear i f;go_enter Tryz.func151,Tryz.ntmps151
 go_wp2_with fail;refine (a.o _).mono ?_;rintro e C ⟨rfl,hb⟩;have p:=q_ (((XV w.heap.size w).alloc (XJ _) (XX #[QK QU k,XK b,QK QU n,QZ t,QZ x,s] 39)).trans (hb.mono (by simp)));clear hb;go_wp2_with fail;go_ret;exact⟨rfl,p.o⟩
def O1_ (l:List g_) (p:g_->Bool) (w:QV) (e:Ending) (w':QV):Prop:=∃r:Int,e = XW (QK QU r)/\(decide (0<=r)=l.any p)/\XU w.heap.size w w'
theorem Hi_ (l:List g_) (p:g_->Bool) (F:Nat->Prop) (A:Option Addr) (n L:Nat) (w:QV) (M:∀g,F g->g<w.heap.size) (D:LRd w F l A n) (hn:n<=1000000000)
    (v:∀(x:g_) (_:x∈l) (u:XZ) (W:QV),XU w.heap.size w W->VRd W F x u->Calls QW 151 #[u] W (p_ (p x) W)) :
    Calls QW 220 #[QQ A n L,.func (.func 151) #[] #[]] w (O1_ l p w):=by
 have X:=q_ D;have U:=q_ M;have J:=q_ v;have z:=q_ D.1;clear D M v;go_enter Tryz.func220,Tryz.ntmps220
 go_wp2_with fail;go_loopw [8] (λI wr=>∃k:Nat,k<=n/\I = QK QU (k:Nat)/\Q_ (((l.take k).any p)=false)/\Q_ (XU w.heap.size w wr)) (λI _=>n-(intOf I).toNat)
 case atStart=>exact⟨0,by omega,rfl,q_ (by simp),q_ (XV _ _)⟩
 case round=>
  obtain⟨k,hk,rfl,d,c⟩:=hrel;by_cases O:k<n
  ·obtain⟨x,j⟩:∃x,l[k]?=QJ x:=⟨l[k]'(by rw[<-z.o];exact O),XQ _⟩;have Z:=q_ (X.o.under c.o U.o);obtain⟨ad,s,rfl,N,⟨B,a0,rfl,T,P⟩,S,c0,c1,c2,c3,c4,c5⟩:=Z.o.cellsAt j;have HX:=q_ j;have i:=q_ (YQ j);have f:=q_ (J.o x i.o _ wr c.o S);have a:=q_ (λ(h:p x=false)=>show (l.take (k+1)).any p=false from by rw[f_ HX.o,List.any_append,d.o];simp[h]);have b:=q_ (λ(h:p x=true)=>show l.any p=true from by rw[List.any_eq_true];exact⟨x,i.o,h⟩);obtain⟨r,Hr⟩:=a_ (p x);rw[Hr.o]at f a b;unfold c_ at f;have e1:(0:Int)<=k:=by omega
   have e2:(k:Int)<n:=by omega
   clear j P S N;go_wp2_with fail;refine f.o.mono ?_;rintro e w2 ⟨rfl,t⟩;have q:=q_ (c.o.trans (t.mono c.o.size));clear t
   cases r with
   | false=>
    have Y:=q_ (a.o rfl);have w1:IntKind.i64.wrap ((k:Int)+1)=(k:Int)+1:=IntWalk.i64_in _ (by omega);go_wp2_with fail;go_roundw
    case rel=>exact⟨k+1,by omega,by go_num,Y,q⟩
    case measure=>simp[intOf];omega
   | true=>
    have C:=q_ (b.o rfl);go_wp2_with fail;go_ret;exact⟨(k:Int),rfl,by rw[C.o];simp,q.o⟩
  ·have y:k=n:=by omega
   have C:=q_ (show l.any p=false from by have:=d.o;rw[List.take_of_length_le (by rw[y,z.o];exact XJ _)]at this;exact this);subst y;go_wp2_with fail;go_ret;exact⟨-1,rfl,by rw[C.o];simp,c.o⟩
theorem Cr_ (l:List g_) (z:Z_ l<=1000000000) (F:Nat->Prop) (A:Option Addr) (n c:Nat) (w:QV) (d:∀g,F g->g<w.heap.size) (f:LRd w F l A n) (a:aa_ w) :
    Calls QW 150 #[QQ A n c,.func (.func 151) #[] #[]] w (p_ (l.any λv=>!O_ v) w):=by
 have y:=ce_ l;have k:=q_ (Hi_ l (λv=>!O_ v) F A n c w d f (by rw[f.1];omega) (λx t u W i b=>x1_ x (by have:=dr_ t;omega) F u W (λg a=>XY (d g a) i.size) b (k_ a i)));obtain⟨r,h⟩:=a_ (l.any λv=>!O_ v);rw[h.o];clear f d a;go_enter Tryz.func150,Tryz.ntmps150
 go_wp2_with fail;refine k.o.mono ?_;rintro e B ⟨q,rfl,b,hb⟩;have p:=q_ b;have j:=q_ hb;clear b hb;go_wp2_with fail;go_ret;exact⟨by rw[<-h.o,<-p.o];rfl,j.o⟩
end
section
open Go Go.RowKit Go.Maps Go.WideMaps
theorem lz_ {w:QV} {F:Nat->Prop} {l:List G_} {A:Option Addr} {n:Nat} (h:SRd 7 PaR w F l A n) {i:Nat} {x:G_} (q:l[i]?=QJ x) :
    ∃ad s,A=QJ ad/\F ad.block/\VRd w F x.v (.agg (c_ x.v s))/\w.cell? (ad.add (i*7))=QJ (QZ x.key) /\
     w.cell? ⟨(ad.add (i*7)).block,(ad.add (i*7)).off+1,QY⟩=QJ (QK QU x.v.kind)/\w.cell? ⟨(ad.add (i*7)).block,(ad.add (i*7)).off+2,QY⟩=QJ (XK x.v.truth)/\w.cell? ⟨(ad.add (i*7)).block,(ad.add (i*7)).off+3,QY⟩=QJ (QK QU x.v.num) /\
     w.cell? ⟨(ad.add (i*7)).block,(ad.add (i*7)).off+4,QY⟩=QJ (QZ x.v.text)/\w.cell? ⟨(ad.add (i*7)).block,(ad.add (i*7)).off+5,QY⟩=QJ (QZ x.v.extra)/\w.cell? ⟨(ad.add (i*7)).block,(ad.add (i*7)).off+6,QY⟩=QJ s:=by
 obtain⟨ad,c,e,o,_,a,s,rfl,p⟩:=h.at_ q;have k:=a 0 (by omega);have b:=a 1 (by omega);have d:=a 2 (by omega);have f:=a 3 (by omega);have c4:=a 4 (by omega);have g:=a 5 (by omega);have j:=a 6 (by omega);rw[<-add_of_add]at b d f c4 g j;exact⟨ad,s,e,o,p,k,b,d,f,c4,g,j⟩
def a8_ (v:g_):Bool:=if v.kind=5 then z_ v 0&&v.list.all O_ else O_ v
def a1_:List ByteArray->List G_->Bool
 | _,[]=>true
 | ks,p::r=>(al_ p.key&&(!inB ks p.key&&a8_ p.v))&&a1_ (ks++[p.key]) r
def as_ (l:List G_):Bool:=a1_ [] l&&decide (l.length<=65536)
def B5_ (p:G_):Prop:=p.key.size<=2000000/\M_ p.v<=2000000
theorem xl_ (l:List G_):∀(k:Nat) (ks:List ByteArray),a1_ ks l=(a1_ ks (l.take k)&&a1_ (ks++(l.take k).map G_.key) (l.drop k)):=by
 induction l with
 | nil=>intro k ks;simp[a1_]
 | cons p r a=>
  intro k ks
  cases k with
  | zero=>simp[a1_]
  | succ k=>
   simp only[List.take_succ_cons,List.drop_succ_cons,a1_,List.map_cons];rw[a k (ks++[p.key])];simp only[Bool.and_assoc,List.append_assoc,List.singleton_append]
theorem xk_ (l:List G_) (p:G_):∀ks:List ByteArray,a1_ ks (l++[p])=(a1_ ks l&&(al_ p.key&&(!inB (ks++l.map G_.key) p.key&&a8_ p.v))):=by
 induction l with
 | nil=>intro ks;simp[a1_]
 | cons q r a=>
  intro ks;simp only[List.cons_append,a1_,List.map_cons,a,Bool.and_assoc,List.append_assoc];simp
theorem m6_ {α : Type} {l:List α} {k:Nat} {x:α} (h:l[k]?=QJ x):l.drop k=x::l.drop (k+1):=by obtain⟨h1,rfl⟩:=List.getElem?_eq_some_iff.1 h;exact List.drop_eq_getElem_cons h1
structure Fi_ (w:QV) (m:Nat) (l:List G_) (k:Nat) (wr:QV):Prop where
 below:XU w.heap.size w wr
 loc:w.heap.size<=m
 set:a9_ 9 VS jv_ wr m ((l.take k).map G_.key)
 ok:a1_ [] (l.take k)=true
theorem xm_ {l:List G_} {k:Nat} {x:G_} (a:l[k]?=QJ x) (h:(al_ x.key&&(!inB ((l.take k).map G_.key) x.key&&a8_ x.v))=false):as_ l=false:=by unfold as_;rw[xl_ l k [],m6_ a,a1_,List.nil_append,h];simp
theorem s6_ {l:List G_} {k:Nat} {x:G_} (b:l[k]?=QJ x) (h:(al_ x.key&&(!inB ((l.take k).map G_.key) x.key&&a8_ x.v))=true) (a:a1_ [] (l.take k)=true):a1_ [] (l.take (k+1))=true:=by rw[f_ b,xk_,a,List.nil_append,h];rfl
theorem z8_ {v:g_} (h:v.kind=5):a8_ v=(z_ v 0 && !(v.list.any λx=>!O_ x)):=by
 unfold a8_;rw[if_pos h];congr 1
 induction v.list with
 | nil=>rfl
 | cons a r b=>rw[List.all_cons,List.any_cons,Bool.not_or,Bool.not_not,b]
theorem D3_ {v:g_} (h:v.kind≠5):a8_ v=O_ v:=by unfold a8_;rw[if_neg h]
theorem s5_ (l:List G_) (a5:∀p,p∈l->B5_ p) (ap:l.length<=2000000) (F:Nat->Prop) (A:Option Addr) (n b1:Nat) (w:QV) (hF:∀g,F g->g<w.heap.size) (T:SRd 7 PaR w F l A n) (S:aa_ w) :
    Calls QW 90 #[QQ A n b1] w (p_ (as_ l) w):=by
 have b7:=@run_makeMap QW;have HL:=q_ T;have HF:=q_ hF;have HG:=q_ S;have am:=q_ a5;have a6:=q_ T.1;have b8:n<=2000000:=by rw[T.1];exact ap
 clear T hF S a5;obtain⟨m,Hm⟩:=a_ w.heap.size;have HP:=q_ (show as_ l=(a1_ [] l&&decide (l.length<=65536)) from rfl);obtain⟨pb,ac⟩:=a_ (as_ l);rw[ac.o]at HP ⊢;have ay:=q_ (λ(k:Nat) (x:G_) (U:l[k]?=QJ x) (h:(al_ x.key&&(!inB ((l.take k).map G_.key) x.key&&a8_ x.v))=false)=>ac.o.symm.trans (xm_ U h));go_enter Tryz.func90,Tryz.ntmps90
 go_wp2_with fail;rw[Hm.o];go_loopw [10] (λaa wr=>∃k:Nat,k<=n/\aa = QK QU (k:Nat)/\Q_ (Fi_ w m l k wr)) (λaa _=>n-(intOf aa).toNat)
 case atStart=>
  refine⟨0,by omega,rfl,q_ ⟨(XV _ _).alloc (XJ _) _,by rw[<-Hm.o];exact XJ _,?_,rfl⟩⟩;rw[<-Hm.o];exact a9_.made _ _ _ _
 case round=>
  obtain⟨k,hk,rfl,f⟩:=hrel;by_cases b4:k<n
  ·obtain⟨x,U⟩:∃x,l[k]?=QJ x:=⟨l[k]'(by rw[<-a6.o];exact b4),XQ _⟩;have HX:=q_ U;have P:=q_ (am.o x (YQ U));obtain⟨ad,s,rfl,b2,hv,c0,c1,c2,c3,c4,c5,c6⟩:=lz_ (HL.o.under PaR.good f.o.below HF.o) U;obtain⟨B,cb,C,_,_⟩:=hv.inv;injection C with C;obtain rfl:s = QQ B x.v.list.length cb:=by have:=congrArg (λa:Array XZ=>a[5]?) C;simpa [c_] using this
   have HV:=q_ hv;clear U b2 hv C;obtain⟨X,b0⟩:=a_ x.v.list.length;rw[b0.o]at c6 HV;obtain⟨z,Hz⟩:=a_ wr.heap.size;obtain⟨w5,M⟩:=a_ (wr.alloc (XX #[QZ x.key,QK QU x.v.kind,XK x.v.truth,QK QU x.v.num,QZ x.v.text,QZ x.v.extra,QQ B X cb] 69));have L:=q_ (show XU wr.heap.size wr w5 from by rw[<-M.o];exact (XV _ _).alloc (XJ _) _);have d:=q_ (show w5.heap[z]?=QJ (XX #[QZ x.key,QK QU x.v.kind,XK x.v.truth,QK QU x.v.num,QZ x.v.text,QZ x.v.extra,QQ B X cb] 69 (0,0)) from by rw[<-M.o,<-Hz.o];exact heap_alloc_new wr _);have a3:=q_ (show w5.heap.size=z+1 from by rw[<-M.o,<-Hz.o];simp);have e1:(0:Int)<=k:=by omega
   have e2:(k:Int)<n:=by omega
   go_upto_region 5 with fail;rw[M.o,Hz.o];have J:w.heap.size<=wr.heap.size:=f.o.below.size;have Z:=q_ (λ(W:QV) (hW:XU wr.heap.size wr W) (g:Nat) (S:F g)=>show g<W.heap.size from XY (HF.o g S) (YK J hW.size));have a0:=q_ (λ(g:Nat) (S:F g)=>show g<wr.heap.size from XY (HF.o g S) J);have a1:=q_ (k_ HG.o f.o.below);have a7:=q_ (q9_ x.v (by have:=P.o.2;omega) F _ w5 (Z.o w5 L.o) (HV.o.under L.o a0.o) (k_ a1.o L.o));obtain⟨sc,af⟩:=a_ (O_ x.v);rw[af.o]at a7;unfold c_ at a7;have d1:w5.cell? ⟨z,1,QY⟩=QJ (QK QU x.v.kind):=QX d.o 1;have d2:w5.cell? ⟨z,2,QY⟩=QJ (XK x.v.truth):=QX d.o 2;have d3:w5.cell? ⟨z,3,QY⟩=QJ (QK QU x.v.num):=QX d.o 3;have d4:w5.cell? ⟨z,4,QY⟩=QJ (QZ x.v.text):=QX d.o 4;have d5:w5.cell? ⟨z,5,QY⟩=QJ (QZ x.v.extra):=QX d.o 5;have d6:w5.cell? ⟨z,6,QY⟩=QJ (QQ B X cb):=QX d.o 6;clear c0 c1 c2 c3 c4 c5 c6;go_wp2_with fail;refine a7.o.mono ?_;rintro e w6 ⟨rfl,N⟩;have c:=q_ (L.o.trans (N.mono (by rw[a3.o,Hz.o];omega)));have b:=q_ ((N.block z (by rw[a3.o];omega)).trans d.o);have ak:=q_ (show z<w6.heap.size from XY (by rw[a3.o];omega) N.size);clear N d1 d2 d3 d4 d5 d6;have d1:w6.cell? ⟨z,1,QY⟩=QJ (QK QU x.v.kind):=QX b.o 1;go_upto_if 20 with fail;go_cut [6] (λs6 wx=>s6 = XK (a8_ x.v)/\Q_ (XU w6.heap.size w6 wx))
   case first=>
    by_cases u:x.v.kind=5
    ·have q5:(x.v.kind==5)=true:=by rw[u];rfl
     have t:=q_ (z8_ u);have a4:=q_ (d7_ x.v (by have:=P.o.2;omega) F _ w6 (Z.o w6 c.o) (HV.o.under c.o a0.o) (k_ a1.o c.o));obtain⟨mv,aw⟩:=a_ (z_ x.v 0);rw[aw.o]at a4 t;unfold c_ at a4;have d2:w6.cell? ⟨z,2,QY⟩=QJ (XK x.v.truth):=QX b.o 2;have d3:w6.cell? ⟨z,3,QY⟩=QJ (QK QU x.v.num):=QX b.o 3;have d4:w6.cell? ⟨z,4,QY⟩=QJ (QZ x.v.text):=QX b.o 4;have d5:w6.cell? ⟨z,5,QY⟩=QJ (QZ x.v.extra):=QX b.o 5;have d6:w6.cell? ⟨z,6,QY⟩=QJ (QQ B X cb):=QX b.o 6;clear u;go_wp2_with fail;refine a4.o.mono ?_;rintro e w7 ⟨rfl,O⟩;have Y:=q_ O;have I:=q_ (c.o.trans (O.mono (by have:=c.o.size;omega)));have d6:w7.cell? ⟨z,6,QY⟩=QJ (QQ B X cb):=QX ((O.block z ak.o).trans b.o) 6;clear O
     cases mv with
     | false=>
      go_wp2_with fail;go_meet;exact⟨by rw[t.o];rfl,Y⟩
     | true=>
      have ai:=q_ (show Calls QW 150 #[QQ B X cb,.func (.func 151) #[] #[]] w7 (p_ (x.v.list.any λv=>!O_ v) w7) from by obtain⟨B',b6,C,_,T⟩:=(HV.o.under I.o a0.o).inv;injection C with C;have u:=congrArg (λa:Array XZ=>a[5]?) C;simp[c_]at u;obtain⟨rfl,rfl,rfl⟩:=u;exact Cr_ x.v.list (by have:=P.o.2;have:=ft_ x.v;omega) F _ _ _ w7 (Z.o w7 I.o) T (k_ a1.o I.o));obtain⟨av,ar⟩:=a_ (x.v.list.any λv=>!O_ v);rw[ar.o]at ai t;go_wp2_with fail;refine ai.o.mono ?_;rintro e w8 ⟨rfl,ag⟩;have au:=q_ (Y.o.trans (ag.mono Y.o.size));clear ag;go_wp2_with fail;go_meet;exact⟨by rw[t.o];rfl,au⟩
    ·have q5:(x.v.kind==5)=false:=by simp[u]
     have t:=q_ (D3_ u);clear u;go_wp2_with fail;go_meet;exact⟨by rw[t.o,af.o],q_ (XV _ _)⟩
   case rest=>
    obtain⟨h6,ah⟩:=hcut;subst h6;obtain⟨pv,ae⟩:=a_ (a8_ x.v);rw[ae.o];have ab:=q_ (c.o.trans (ah.o.mono (by have:=c.o.size;omega)));have q:=q_ (show Fi_ w m l k wc from ⟨f.o.below.trans (ab.o.mono J),f.o.loc,f.o.set.below ab.o,f.o.ok⟩);have d0:wc.cell? ⟨z,0,QY⟩=QJ (QZ x.key):=QX ((ah.o.block z ak.o).trans b.o) 0;have aj:=q_ (λW=>u9_ x.key W);have r:=q_ (ay.o k x HX.o);have y:=q_ (λh=>s6_ HX.o h f.o.ok);have aq:=q_ (Bw_ m ((l.take k).map G_.key) x.key (by have:=P.o.1;unfold VS maxLen;omega) (by simp;omega) wc q.o.set);rw[ae.o]at r y;obtain⟨tb,az⟩:=a_ (al_ x.key);rw[az.o]at aj r y;obtain⟨ib,a2⟩:=a_ (inB ((l.take k).map G_.key) x.key);rw[a2.o]at r y;clear d1;go_wp2_with fail;refine (aj.o _).mono ?_;rintro e w9 ⟨rfl,b5⟩;subst b5
    cases tb with
    | false=>
     have j:=q_ (r.o rfl);go_wp2_with fail;go_ret;exact⟨by rw[j.o];rfl,q.o.below⟩
    | true=>
     go_wp2_with fail;refine aq.o.mono ?_;rintro e b9 ⟨rfl,a8,a9⟩;rw[a2.o];have D:=q_ (q.o.below.trans (a9.below (B:=w.heap.size) (λi _ hi=>by rw[hi];exact q.o.loc) q.o.below.size));have ao:=q_ a8;clear a8 a9
     cases ib with
     | true=>
      have j:=q_ (r.o rfl);go_wp2_with fail;go_ret;exact⟨by rw[j.o];rfl,D.o⟩
     | false=>
      cases pv with
      | false=>
       have j:=q_ (r.o rfl);go_wp2_with fail;go_ret;exact⟨by rw[j.o];rfl,D.o⟩
      | true=>
       have HY:=q_ (y.o rfl);have w1:IntKind.i64.wrap ((k:Int)+1)=(k:Int)+1:=IntWalk.i64_in _ (by omega);go_wp2_with fail;go_roundw
       case rel=>
        refine⟨k+1,by omega,by go_num,q_ ⟨D.o,q.o.loc,?_,HY.o⟩⟩;have h:=ao.o;unfold fs_ at h;rw[a2.o,if_neg (by decide)]at h;rw[f_ HX.o,List.map_append];exact h
       case measure=>simp[intOf];omega
  ·have b3:k=n:=by omega
   subst b3;have j:=q_ (show pb=decide (k<=65536) from by have h:=f.o.ok;rw[List.take_of_length_le (by rw[a6.o];exact XJ _)]at h;rw[HP.o,h,a6.o];rfl);by_cases h6:k<=65536
   ·have e6:decide ((k:Int)<=65536)=true:=decide_eq_true (by omega);rw[decide_eq_true h6]at j;go_wp2_with fail;go_ret;exact⟨by rw[j.o];rfl,f.o.below⟩
   ·have e6:decide ((k:Int)<=65536)=false:=decide_eq_false (by omega);rw[decide_eq_false h6]at j;go_wp2_with fail;go_ret;exact⟨by rw[j.o];rfl,f.o.below⟩
def a7_:List ByteArray->List ByteArray->Bool
 | _,[]=>true
 | ks,s::r=>(al_ s && !inB ks s)&&a7_ (ks++[s]) r
theorem zu_ (l:List ByteArray):∀(k:Nat) (ks:List ByteArray),a7_ ks l=(a7_ ks (l.take k)&&a7_ (ks++l.take k) (l.drop k)):=by
 induction l with
 | nil=>intro k ks;simp[a7_]
 | cons p r a=>
  intro k ks
  cases k with
  | zero=>simp[a7_]
  | succ k=>
   simp only[List.take_succ_cons,List.drop_succ_cons,a7_];rw[a k (ks++[p])];simp only[Bool.and_assoc,List.append_assoc,List.singleton_append]
theorem zt_ (l:List ByteArray) (p:ByteArray):∀ks:List ByteArray,a7_ ks (l++[p])=(a7_ ks l&&(al_ p && !inB (ks++l) p)):=by
 induction l with
 | nil=>intro ks;simp[a7_]
 | cons q r a=>
  intro ks;simp only[List.cons_append,a7_,a,Bool.and_assoc,List.append_assoc];simp
theorem Bi_ {l:List ByteArray} {k:Nat} {x:ByteArray} (a:l[k]?=QJ x) (h:(al_ x && !inB (l.take k) x)=false):a7_ [] l=false:=by rw[zu_ l k [],m6_ a,a7_,List.nil_append,h];simp
theorem wu_ {l:List ByteArray} {k:Nat} {x:ByteArray} (b:l[k]?=QJ x) (h:(al_ x && !inB (l.take k) x)=true) (a:a7_ [] (l.take k)=true):a7_ [] (l.take (k+1))=true:=by rw[f_ b,zt_,a,List.nil_append,h];rfl
def Mk_ (m:Nat) (ks:List ByteArray) (x:ByteArray) (w:QV) (e:Ending) (w':QV):Prop:=
 e = XW (XK (!(al_ x && !inB ks x)))/\((al_ x && !inB ks x)=true->a9_ 9 VS jv_ w' m (ks++[x]))/\Turn (λb=>b=m) w w'
theorem Fs_ (ca:Addr) (m:Nat) (ks:List ByteArray) (x:ByteArray) (q:VS x) (r:ks.length<=100000000) (w:QV) (y:w.cell? ca=QJ (.map (QJ m))) (k:a9_ 9 VS jv_ w m ks) :
    Calls QW 86 #[QZ x,YX (QJ ca)] w (Mk_ m ks x w):=by
 have d:=q_ (λW=>u9_ x W);have g:=q_ (Bw_ m ks x q r w k);clear q k;unfold Mk_;obtain⟨u,j⟩:=a_ (al_ x);obtain⟨t,a⟩:=a_ (inB ks x);rw[j.o]at d ⊢;rw[a.o];go_enter Tryz.func86,Tryz.ntmps86
 go_wp2_with fail;refine (d.o _).mono ?_;rintro e z ⟨rfl,p⟩;subst p
 cases u with
 | false=>
  go_wp2_with fail;go_ret;exact⟨rfl,λh=>by simp at h,Turn.refl _ _⟩
 | true=>
  go_wp2_with fail;refine g.o.mono ?_;rintro e v ⟨rfl,b,c⟩;rw[a.o];have f:=q_ b;have i:=q_ c;clear b c
  cases t with
  | true=>
   go_wp2_with fail;go_ret;exact⟨rfl,λh=>by simp at h,i.o⟩
  | false=>
   go_wp2_with fail;go_ret;refine⟨rfl,λ_=>?_,i.o⟩;have h:=f.o;unfold fs_ at h;rw[a.o,if_neg (by decide)]at h;exact h
theorem Ar_ {w:QV} {F:Nat->Prop} {l:List ByteArray} {A:Option Addr} {n:Nat} (h:SRd 1 TxR w F l A n) {i:Nat} {x:ByteArray} (g:l[i]?=QJ x) :
    ∃ad,A=QJ ad/\F ad.block/\w.cell? (ad.add i)=QJ (QZ x):=by
 obtain⟨ad,c,e,d,_,f,b⟩:=h.at_ g;have a:=f 0 (by omega);rw[b]at a;exact⟨ad,e,d,by simpa using a⟩
def Ms_ (m:Nat) (l:List ByteArray) (w:QV) (e:Ending) (w':QV):Prop:=∃r:Int,e = XW (QK QU r)/\(decide (0<=r) = !a7_ [] l)/\Turn (λb=>b=m) w w'
structure O2_ (w:QV) (m:Nat) (l:List ByteArray) (k:Nat) (wr:QV):Prop where
 turn:Turn (λb=>b=m) w wr
 set:a9_ 9 VS jv_ wr m (l.take k)
 ok:a7_ [] (l.take k)=true
theorem Hg_ (l:List ByteArray) (f:∀s,s∈l->VS s) (ca:Addr) (m:Nat) (F:Nat->Prop) (A:Option Addr) (n M:Nat) (w:QV) (N:∀g,F g->g<w.heap.size/\g≠m) (C:SRd 1 TxR w F l A n) (hn:n<=10000000)
    (O:w.cell? ca=QJ (.map (QJ m))) (q:ca.block<w.heap.size/\ca.block≠m) (T:a9_ 9 VS jv_ w m []) :
    Calls QW 147 #[QQ A n M,.func (.func 86) #[] #[YX (QJ ca)]] w (Ms_ m l w):=by
 have W:=q_ C;have I:=q_ N;have y:=q_ f;have U:=q_ O;have X:=q_ T;have u:=q_ C.1;clear C N f O T;obtain⟨lb,c⟩:=a_ (a7_ [] l);have J:=q_ (λ(k:Nat) (x:ByteArray) (a:l[k]?=QJ x) (h:(al_ x && !inB (l.take k) x)=false)=>c.o.symm.trans (Bi_ a h));unfold Ms_;rw[c.o];go_enter Tryz.func147,Tryz.ntmps147
 go_wp2_with fail;go_loopw [8] (λD wr=>∃k:Nat,k<=n/\D = QK QU (k:Nat)/\Q_ (O2_ w m l k wr)) (λD _=>n-(intOf D).toNat)
 case atStart=>exact⟨0,by omega,rfl,q_ ⟨Turn.refl _ _,X.o,rfl⟩⟩
 case round=>
  obtain⟨k,hk,rfl,b⟩:=hrel;by_cases P:k<n
  ·obtain⟨x,a⟩:∃x,l[k]?=QJ x:=⟨l[k]'(by rw[<-u.o];exact P),XQ _⟩;have Y:=q_ a;obtain⟨ad,rfl,_,c0⟩:=Ar_ (W.o.keep TxR.good (w':=wr) (λp S=>b.o.turn.cell (I.o _ S).1 (I.o _ S).2)) a;have d:=q_ (Fs_ ca m (l.take k) x (y.o x (YQ a)) (by simp;omega) wr ((b.o.turn.cell q.1 q.2).trans U.o) b.o.set);have v:=q_ (J.o k x a);have j:=q_ (λh=>wu_ a h b.o.ok);unfold Mk_ at d;obtain⟨r,Hr⟩:=a_ (al_ x && !inB (l.take k) x);rw[Hr.o]at d v j;have e1:(0:Int)<=k:=by omega
   have e2:(k:Int)<n:=by omega
   clear a;go_wp2_with fail;refine d.o.mono ?_;rintro e w2 ⟨rfl,i,ht⟩;have L:=q_ (b.o.turn.trans ht);have B:=q_ i;clear i ht
   cases r with
   | true=>
    have Z:=q_ (j.o rfl);have w1:IntKind.i64.wrap ((k:Int)+1)=(k:Int)+1:=IntWalk.i64_in _ (by omega);go_wp2_with fail;go_roundw
    case rel=>exact⟨k+1,by omega,by go_num,q_ ⟨L.o,by rw[f_ Y.o];exact B.o (by trivial),Z.o⟩⟩
    case measure=>simp[intOf];omega
   | false=>
    have z:=q_ (v.o rfl);go_wp2_with fail;go_ret;exact⟨(k:Int),rfl,by rw[z.o];simp,L.o⟩
  ·have t:k=n:=by omega
   have z:=q_ (show lb=true from by have h:=b.o.ok;rw[List.take_of_length_le (by rw[t,u.o];exact XJ _),c.o]at h;exact h);subst t;go_wp2_with fail;go_ret;exact⟨-1,rfl,by rw[z.o];simp,b.o.turn⟩
def ys_ (m:Nat) (l:List ByteArray) (w:QV) (e:Ending) (w':QV):Prop:=e = XW (XK (!a7_ [] l))/\Turn (λb=>b=m) w w'
theorem Cq_ (l:List ByteArray) (a:∀s,s∈l->VS s) (ca:Addr) (m:Nat) (F:Nat->Prop) (A:Option Addr) (n b:Nat) (w:QV) (h:∀g,F g->g<w.heap.size/\g≠m) (j:SRd 1 TxR w F l A n) (u:n<=10000000)
    (i:w.cell? ca=QJ (.map (QJ m))) (c:ca.block<w.heap.size/\ca.block≠m) (p:a9_ 9 VS jv_ w m []) :
    Calls QW 85 #[QQ A n b,.func (.func 86) #[] #[YX (QJ ca)]] w (ys_ m l w):=by
 have d:=q_ (Hg_ l a ca m F A n b w h j u i c p);clear j h a p i c;unfold Ms_ at d;unfold ys_;obtain⟨lb,f⟩:=a_ (a7_ [] l);rw[f.o]at d ⊢;go_enter Tryz.func85,Tryz.ntmps85
 go_wp2_with fail;refine d.o.mono ?_;rintro e v ⟨q,rfl,k,hb⟩;have t:=q_ k;have r:=q_ hb;clear k hb;go_wp2_with fail;go_ret;exact⟨by rw[<-t.o];rfl,r.o⟩
end
section
open Go Go.RowKit
section
variable {α : Type} {R:bu_ α} {w:QV} {F:Nat->Prop} {l:List α} {ad:Addr} {n sz:Nat}
theorem SRd.fn (h:SRd sz R w F l (QJ ad) n):∃cs:Nat->Array XZ,∀i x,l[i]?=QJ x->F ad.block/\(cs i).size=sz/\(∀j,j<sz->w.cell? (ad.add (i*sz+j))=(cs i)[j]?)/\R w F x (cs i):=by
 classical
 have a:∀i,∃c:Array XZ,∀x,l[i]?=QJ x->F ad.block/\c.size=sz/\(∀j,j<sz->w.cell? (ad.add (i*sz+j))=c[j]?)/\R w F x c:=λi=>by
  cases b:l[i]? with
  | none=>exact⟨#[],λx h=>by cases h⟩
  | some x=>
   obtain⟨k,c,e,g,h1,h2,f⟩:=h.at_ b;injection e with e;subst e;exact⟨c,λy d=>by injection d with d;subst d;exact⟨g,h1,h2,f⟩⟩
 exact⟨λi=>(a i).choose,λi x b=>(a i).choose_spec x b⟩
theorem p9_ {cs:Nat->Array XZ} (a:∀i,i<n->(cs i).size=sz) (f:∀i,i<n->∀j,j<sz->w.cell? (ad.add (i*sz+j))=(cs i)[j]?) (d:0<sz):∀j u,(T_ cs n)[j]?=QJ u->w.cell? (ad.add j)=QJ u:=by
 intro j u e;have h:=ax_ a;have g:j<n*sz:=by rw[<-h];exact (List.getElem?_eq_some_iff.1 e).1
 have hi:j / sz<n:=Nat.div_lt_of_lt_mul (by rw[Nat.mul_comm];exact g);have c:j % sz<sz:=Nat.mod_lt _ d;have b:j / sz*sz+j % sz=j:=by rw[Nat.mul_comm];exact Nat.div_add_mod j sz
 have h1:=cq_ a hi c;rw[b]at h1;have h2:=f _ hi _ c;rw[b]at h2;rw[h2,<-h1,e]
theorem wd_ {cs:Nat->Array XZ} (h1:∀i,i<n->∀u∈(cs i).toList,u.oneCell'=true):∀u∈T_ cs n,u.oneCell'=true:=by intro u a;unfold T_ at a;obtain⟨i,hi,a⟩:=List.mem_flatMap.1 a;exact h1 i (List.mem_range.1 hi) u a
end
def tu_ {α : Type} (E sz:Nat) (R:bu_ α) (F:Nat->Prop) (l:List α) (w:QV) (e:Ending) (w':QV):Prop:=
 ∃s,e = XW s/\XU w.heap.size w w'/\D_ E sz R w' (λb=>F b\/(w.heap.size<=b/\b<w'.heap.size)) l s/\(∀g,s.ownBlock=QJ g->w.heap.size<=g)
def VaR:bu_ g_:=λw F x c=>VRd w F x (.agg c)
theorem VaR.good:VaR.Good:=⟨λh b=>h.keep b,λh a=>h.mono a⟩
theorem VaR.one {w:QV} {F:Nat->Prop} {x:g_} {c:Array XZ} (h:VaR w F x c):∀u∈c.toList,u.oneCell'=true:=by obtain⟨A,b,a,_⟩:=VRd.inv h;injection a with a;subst a;exact Bs_ x A _ b
theorem TxR.one {w:QV} {F:Nat->Prop} {x:ByteArray} {c:Array XZ} (h:TxR w F x c):∀u∈c.toList,u.oneCell'=true:=by have h:c=#[QZ x]:=h;subst h;exact Lk_ x
theorem y5_ (l:List ByteArray) (F:Nat->Prop) (A:Option Addr) (n C:Nat) (hn:n<=10000000) (w:QV) (z:∀g,F g->g<w.heap.size) (u:SRd 1 TxR w F l A n) :
    Calls QW 152 #[QQ A n C] w (tu_ 9 1 TxR F l w):=by
 have t:=q_ u.1;have N:=q_ z;have a0:∀(w:QV) (a:Option Addr) (n c L D:Nat),(binOp .eql 67 (QQ a n c) (QQ QY L D)).run QW w = .ok (XK a.isNone) w:=λw a n c L D=>Lib.run_eql_slice_nil w _ _ a n c L D Tryz.underlying67
 cases A with
 | none=>
  have h0:l=[]:=by
   rcases Nat.eq_zero_or_pos n with h | h
   ·exact List.eq_nil_of_length_eq_zero (by rw[<-t.o,h])
   ·obtain⟨ad,e,_⟩:=u.2 h
    cases e
  have U:=q_ h0;clear u z h0;go_enter Tryz.func152,Tryz.ntmps152
  go_wp2_with fail;go_ret;rw[U.o];exact⟨QQ none 0 0,rfl,XV _ _,D_.nil _ _ _ _ _,λg q=>by cases q⟩
 | some ad=>
  obtain⟨cs,f⟩:=u.fn;have b:∀i,i<n->∃x,l[i]?=QJ x:=λi hi=>⟨l[i]'(by rw[<-t.o];exact hi),XQ _⟩;have I:=q_ (λi (hi:i<n)=>by obtain⟨x,d⟩:=b i hi;exact (show (cs i).size=1 from (f i x d).2.1));have h1:=q_ (wd_ (n:=n) (cs:=cs) λi hi=>by obtain⟨x,d⟩:=b i hi;exact TxR.one (f i x d).2.2.2)
  have B:=q_ (λ(o:Obj)=>p9_ (w:=w.alloc o) (ad:=ad) I.o (λi hi j Z=>by
   obtain⟨x,d⟩:=b i hi;obtain⟨X,_,Y,_⟩:=f i x d;rw[World.cell?_alloc_lt w o _ (by rw[block_of_add];exact z _ X)];exact Y j Z) (by decide))
  have W:=q_ (λi x d=>(f i x d).2.2.2);clear u z f b;obtain⟨i0,hi,O,P,S⟩:=info_parts zr_;go_enter Tryz.func152,Tryz.ntmps152
  go_wp2_with (at_builtin;refine wpList_append_own _ rfl _ _ 67 rfl w.heap.size 9 i0 (QZ ⟨#[]⟩) 1 16 Tryz.underlying67 hi O P S rfl (by decide) _ _ _ rfl (World.ownsRow_made w #[] 0 (XJ _) (Nat.zero_le _) rfl) ad n C (T_ cs n) rfl (ax_ I.o) (B.o _) h1.o (by unfold maxLen;omega) (by omega) (by simp) ?_)
  intro T w1 v r J;have M:=q_ (((XV _ w).alloc (XJ _) (XX #[] 9)).grown r (by simp) (by intro k hk;simp[Value.ownBlock]at hk;omega));have y:=q_ (show w1.ownsRow w.heap.size 9 1 T n (T_ cs n) from by simpa using v);clear v r J;go_wp2_with fail;go_ret;refine⟨T,rfl,M.o,⟨cs,by rw[<-t.o];exact qt_ y.o (Nat.zero_le _),λi hi=>I.o i (by rw[t.o];exact hi),λg q=>.inr (y.o.lt g q),λi x d=>?_⟩,λg q=>(y.o.lt g q).1⟩;refine TxR.good.mono (TxR.good.keep (W.o i x d) λp hp=>M.o.cell (N.o _ hp)) λg q=>⟨.inl q,λe=>?_⟩;have h1:=(y.o.lt g e).1;have h2:=N.o g q;omega
theorem y6_ (l:List g_) (F:Nat->Prop) (A:Option Addr) (n C:Nat) (hn:n<=10000000) (w:QV) (z:∀g,F g->g<w.heap.size) (u:SRd 6 VaR w F l A n) :
    Calls QW 278 #[QQ A n C] w (tu_ 39 6 VaR F l w):=by
 have t:=q_ u.1;have N:=q_ z;have a0:∀(w:QV) (a:Option Addr) (n c L D:Nat),(binOp .eql 37 (QQ a n c) (QQ QY L D)).run QW w = .ok (XK a.isNone) w:=λw a n c L D=>Lib.run_eql_slice_nil w _ _ a n c L D Tryz.underlying37
 cases A with
 | none=>
  have h0:l=[]:=by
   rcases Nat.eq_zero_or_pos n with h | h
   ·exact List.eq_nil_of_length_eq_zero (by rw[<-t.o,h])
   ·obtain⟨ad,e,_⟩:=u.2 h
    cases e
  have U:=q_ h0;clear u z h0;go_enter Tryz.func278,Tryz.ntmps278
  go_wp2_with fail;go_ret;rw[U.o];exact⟨QQ none 0 0,rfl,XV _ _,D_.nil _ _ _ _ _,λg q=>by cases q⟩
 | some ad=>
  obtain⟨cs,f⟩:=u.fn;have b:∀i,i<n->∃x,l[i]?=QJ x:=λi hi=>⟨l[i]'(by rw[<-t.o];exact hi),XQ _⟩;have I:=q_ (λi (hi:i<n)=>by obtain⟨x,d⟩:=b i hi;exact (show (cs i).size=6 from (f i x d).2.1));have h1:=q_ (wd_ (n:=n) (cs:=cs) λi hi=>by obtain⟨x,d⟩:=b i hi;exact VaR.one (f i x d).2.2.2)
  have B:=q_ (λ(o:Obj)=>p9_ (w:=w.alloc o) (ad:=ad) I.o (λi hi j Z=>by
   obtain⟨x,d⟩:=b i hi;obtain⟨X,_,Y,_⟩:=f i x d;rw[World.cell?_alloc_lt w o _ (by rw[block_of_add];exact z _ X)];exact Y j Z) (by decide))
  have W:=q_ (λi x d=>(f i x d).2.2.2);clear u z f b;obtain⟨i0,hi,O,P,S⟩:=info_parts Bf_;go_enter Tryz.func278,Tryz.ntmps278
  go_wp2_with (at_builtin;refine wpList_append_own _ rfl _ _ 37 rfl w.heap.size 39 i0 (.agg #[QK QU 0,XK false,QK QU 0,QZ ⟨#[]⟩,QZ ⟨#[]⟩,QQ QY 0 0]) 6 80 Tryz.underlying37 hi O P S rfl (by decide) _ _ _ rfl (World.ownsRow_made w #[] 0 (XJ _) (Nat.zero_le _) rfl) ad n C (T_ cs n) rfl (ax_ I.o) (B.o _) h1.o (by unfold maxLen;omega) (by omega) (by simp) ?_)
  intro T w1 v r J;have M:=q_ (((XV _ w).alloc (XJ _) (XX #[] 39)).grown r (by simp) (by intro k hk;simp[Value.ownBlock]at hk;omega));have y:=q_ (show w1.ownsRow w.heap.size 39 6 T n (T_ cs n) from by simpa using v);clear v r J;go_wp2_with fail;go_ret;refine⟨T,rfl,M.o,⟨cs,by rw[<-t.o];exact qt_ y.o (Nat.zero_le _),λi hi=>I.o i (by rw[t.o];exact hi),λg q=>.inr (y.o.lt g q),λi x d=>?_⟩,λg q=>(y.o.lt g q).1⟩;refine VaR.good.mono (VaR.good.keep (W.o i x d) λp hp=>M.o.cell (N.o _ hp)) λg q=>⟨.inl q,λe=>?_⟩;have h1:=(y.o.lt g e).1;have h2:=N.o g q;omega
def LFl (w:QV) (F:Nat->Prop) (l:List g_) (s:XZ):Prop:=SlR 6 VaR w F l s/\∀b,F b->b<w.heap.size
theorem LFl.form {w:QV} {F:Nat->Prop} {l:List g_} {s:XZ} (h:LFl w F l s):∃A a,s = QQ A l.length a:=by obtain⟨⟨A,a,e,_⟩,_⟩:=h;exact⟨A,a,e⟩
theorem LFl.turn {w w':QV} {F:Nat->Prop} {l:List g_} {s:XZ} (h:LFl w F l s) {S:Nat->Prop} (ht:Turn S w w') (a:∀b,F b->¬S b):LFl w' F l s:=
 ⟨h.1.turn VaR.good ht h.2 a,λb hb=>XY (h.2 b hb) ht.size⟩
def L8_ (l:List g_) (w:QV) (e:Ending) (w':QV):Prop:=∃s,e = XW s/\XU w.heap.size w w'/\LFl w' (λb=>w.heap.size<=b/\b<w'.heap.size) l s
def Mm_ (v:g_) (w:QV) (e:Ending) (w':QV):Prop:=∃s,e = XW (.agg (c_ v s))/\XU w.heap.size w w'/\SlR 6 VaR w' (λb=>w.heap.size<=b/\b<w'.heap.size) v.list s
theorem VaR.flat {w:QV} {F F':Nat->Prop} {x:g_} {c:Array XZ} (h:VaR w F x c) (d:x.list=[]):VaR w F' x c:=by obtain⟨A,e,b,a,f⟩:=VRd.inv h;injection b with b;subst b;exact VRd.of_list a (by rw[d];exact⟨rfl,λh=>absurd h (by simp)⟩)
theorem y7_ {l:List g_} {F:Nat->Prop} {w w':QV} {e:Ending} (k:∀x,x∈l->x.list=[]) (h:tu_ 39 6 VaR F l w e w'):L8_ l w e w':=by obtain⟨s,j,hb,a,p⟩:=h;refine⟨s,j,hb,?_,λb hb=>hb.2⟩;obtain⟨cs,h1,f,q,o⟩:=a;have h2:D_ 39 6 VaR w' (λb=>w.heap.size<=b/\b<w'.heap.size) l s:=⟨cs,h1,f,λg c=>⟨p g c,(h1.lt g c).2⟩,λi x d=>(o i x d).flat (k x (YQ d))⟩;exact h2.rd VaR.good
theorem vs_ (v:g_) {F:Nat->Prop} (A:Option Addr) (f:Nat) (w:QV) (Z:∀g,F g->g<w.heap.size) (Y:LRd w F v.list A v.list.length)
    (C:∀w',LRd w' F v.list A v.list.length->(∀g,F g->g<w'.heap.size)->Calls QW 278 #[QQ A v.list.length f] w' (L8_ v.list w')) :
    Calls QW 222 #[.agg (c_ v (QQ A v.list.length f))] w (Mm_ v w):=by
 obtain⟨k,t,n,s,x,l⟩:=v;unfold c_;simp only[g_.kind,g_.truth,g_.num,g_.text,g_.extra,g_.list]at Y C ⊢;have L:=q_ (B_ w (XX #[QK QU k,XK t,QK QU n,QZ s,QZ x,QQ A l.length f] 39) (XX #[QK QU 0,XK false,QK QU 0,QZ ⟨#[]⟩,QZ ⟨#[]⟩,QQ QY 0 0] 39));have I:((w.alloc (XX #[QK QU k,XK t,QK QU n,QZ s,QZ x,QQ A l.length f] 39)).alloc (XX #[QK QU 0,XK false,QK QU 0,QZ ⟨#[]⟩,QZ ⟨#[]⟩,QQ QY 0 0] 39)).heap.size=w.heap.size+2:=by simp
 have y:((w.alloc (XX #[QK QU k,XK t,QK QU n,QZ s,QZ x,QQ A l.length f] 39)).alloc (XX #[QK QU 0,XK false,QK QU 0,QZ ⟨#[]⟩,QZ ⟨#[]⟩,QQ QY 0 0] 39)).heap[w.heap.size]?=QJ (XX #[QK QU k,XK t,QK QU n,QZ s,QZ x,QQ A l.length f] 39 (0,0)):=by rw[Below.heap_alloc _ _ _ (by simp)];exact heap_alloc_new w _
 have D:((w.alloc (XX #[QK QU k,XK t,QK QU n,QZ s,QZ x,QQ A l.length f] 39)).alloc (XX #[QK QU 0,XK false,QK QU 0,QZ ⟨#[]⟩,QZ ⟨#[]⟩,QQ QY 0 0] 39)).heap[w.heap.size+1]?=QJ (XX #[QK QU 0,XK false,QK QU 0,QZ ⟨#[]⟩,QZ ⟨#[]⟩,QQ QY 0 0] 39 (0,0)):=by have:=heap_alloc_new (w.alloc (XX #[QK QU k,XK t,QK QU n,QZ s,QZ x,QQ A l.length f] 39)) (XX #[QK QU 0,XK false,QK QU 0,QZ ⟨#[]⟩,QZ ⟨#[]⟩,QQ QY 0 0] 39);simpa using this
 obtain⟨z,S⟩:=a_ w.heap.size;obtain⟨W2,T⟩:=a_ ((w.alloc (XX #[QK QU k,XK t,QK QU n,QZ s,QZ x,QQ A l.length f] 39)).alloc (XX #[QK QU 0,XK false,QK QU 0,QZ ⟨#[]⟩,QZ ⟨#[]⟩,QQ QY 0 0] 39));rw[T.o]at L I y D;have HC:=q_ (C W2 (Y.under L.o Z) (λg hg=>by have:=Z g hg;have:=L.o.size;omega));rw[S.o]at L I y D;have a0:=q_ y;have a1:=q_ D;have r:=q_ I;have c5:W2.cell? ⟨z,5,QY⟩=QJ (QQ A l.length f):=QX y 5;clear Y C Z y D I;go_enter Tryz.func222,Tryz.ntmps222
 go_upto_region 1 with fail;rw[T.o,S.o];go_wp2_with fail;refine HC.o.mono ?_;rintro e w5 ⟨s',rfl,B,N⟩;obtain⟨A',d,rfl⟩:=N.form;have a3:=q_ N;have a2:=q_ B;have a7:z+2<=w5.heap.size:=by have:=B.size;have:=r.o;omega
 have u:=q_ ((B.block z (by have:=r.o;omega)).trans a0.o);have W:=q_ ((B.block (z+1) (by have:=r.o;omega)).trans a1.o);have d0:w5.cell? ⟨z,0,QY⟩=QJ (QK QU k):=QX u.o 0;have d5:w5.cell? ⟨z,5,QY⟩=QJ (QQ A l.length f):=QX u.o 5;have f5:w5.frozen? ⟨z,5,QY⟩=false:=Lib.frozen_of_heap u.o 5;have j:=heap_setCell_same w5 z 5 _ 39 (QQ A' l.length d) u.o;have a:(w5.setCell ⟨z,5,QY⟩ (QQ A' l.length d)).heap[z+1]?=_:=(Below.heap_setCell w5 ⟨z,5,QY⟩ (QQ A' l.length d) (z+1) (by simp)).trans W.o;have O:=(Turn.refl (λb=>b=z\/b=z+1) w5).setCell (p:=⟨z,5,QY⟩) (.inr (.inl rfl)) (QQ A' l.length d);obtain⟨c,U⟩:=a_ (w5.setCell ⟨z,5,QY⟩ (QQ A' l.length d));rw[U.o]at j a O;have g0:c.cell? ⟨z,0,QY⟩=QJ (QK QU k):=QX j 0;have g1:c.cell? ⟨z,1,QY⟩=QJ (XK t):=QX j 1;have g2:c.cell? ⟨z,2,QY⟩=QJ (QK QU n):=QX j 2;have g3:c.cell? ⟨z,3,QY⟩=QJ (QZ s):=QX j 3;have g4:c.cell? ⟨z,4,QY⟩=QJ (QZ x):=QX j 4;have g5:c.cell? ⟨z,5,QY⟩=QJ (QQ A' l.length d):=QX j 5;have r0:c.cell? ⟨z+1,0,QY⟩=QJ (QK QU 0):=QX a 0;have y0:c.frozen? ⟨z+1,0,QY⟩=false:=Lib.frozen_of_heap a 0;have r1:c.cell? ⟨z+1,1,QY⟩=QJ (XK false):=QX a 1;have y1:c.frozen? ⟨z+1,1,QY⟩=false:=Lib.frozen_of_heap a 1;have r2:c.cell? ⟨z+1,2,QY⟩=QJ (QK QU 0):=QX a 2;have y2:c.frozen? ⟨z+1,2,QY⟩=false:=Lib.frozen_of_heap a 2;have r3:c.cell? ⟨z+1,3,QY⟩=QJ (QZ ⟨#[]⟩):=QX a 3;have y3:c.frozen? ⟨z+1,3,QY⟩=false:=Lib.frozen_of_heap a 3;have r4:c.cell? ⟨z+1,4,QY⟩=QJ (QZ ⟨#[]⟩):=QX a 4;have y4:c.frozen? ⟨z+1,4,QY⟩=false:=Lib.frozen_of_heap a 4;have r5:c.cell? ⟨z+1,5,QY⟩=QJ (QQ QY 0 0):=QX a 5;have y5:c.frozen? ⟨z+1,5,QY⟩=false:=Lib.frozen_of_heap a 5;have a6:=q_ j;have X:=q_ a;have a4:=q_ O;clear B N j a O c5;go_upto_region 2 with fail;rw[U.o];go_wp2_with fail;have q:((((((c.setCell ⟨z+1,0,QY⟩ (QK QU k)).setCell ⟨z+1,1,QY⟩ (XK t)).setCell ⟨z+1,2,QY⟩ (QK QU n)).setCell ⟨z+1,3,QY⟩ (QZ s)).setCell ⟨z+1,4,QY⟩ (QZ x)).setCell ⟨z+1,5,QY⟩ (QQ A' l.length d)).heap[z+1]?=QJ (XX #[QK QU k,XK t,QK QU n,QZ s,QZ x,QQ A' l.length d] 39 (0,0)):=(heap_setCell_same _ (z+1) 5 _ 39 _ (heap_setCell_same _ (z+1) 4 _ 39 _ (heap_setCell_same _ (z+1) 3 _ 39 _ (heap_setCell_same _ (z+1) 2 _ 39 _ (heap_setCell_same _ (z+1) 1 _ 39 _ (heap_setCell_same _ (z+1) 0 _ 39 _ X.o))))));have P:Turn (λb=>b=z\/b=z+1) w5 ((((((c.setCell ⟨z+1,0,QY⟩ (QK QU k)).setCell ⟨z+1,1,QY⟩ (XK t)).setCell ⟨z+1,2,QY⟩ (QK QU n)).setCell ⟨z+1,3,QY⟩ (QZ s)).setCell ⟨z+1,4,QY⟩ (QZ x)).setCell ⟨z+1,5,QY⟩ (QQ A' l.length d)):=((((((a4.o.setCell (p:=⟨z+1,0,QY⟩) (.inr (.inr rfl)) _).setCell (p:=⟨z+1,1,QY⟩) (.inr (.inr rfl)) _).setCell (p:=⟨z+1,2,QY⟩) (.inr (.inr rfl)) _).setCell (p:=⟨z+1,3,QY⟩) (.inr (.inr rfl)) _).setCell (p:=⟨z+1,4,QY⟩) (.inr (.inr rfl)) _).setCell (p:=⟨z+1,5,QY⟩) (.inr (.inr rfl)) _);obtain⟨J,a5⟩:=a_ ((((((c.setCell ⟨z+1,0,QY⟩ (QK QU k)).setCell ⟨z+1,1,QY⟩ (XK t)).setCell ⟨z+1,2,QY⟩ (QK QU n)).setCell ⟨z+1,3,QY⟩ (QZ s)).setCell ⟨z+1,4,QY⟩ (QZ x)).setCell ⟨z+1,5,QY⟩ (QQ A' l.length d));rw[a5.o]at q P ⊢;have q0:J.cell? ⟨z+1,0,QY⟩=QJ (QK QU k):=QX q 0;have q1:J.cell? ⟨z+1,1,QY⟩=QJ (XK t):=QX q 1;have q2:J.cell? ⟨z+1,2,QY⟩=QJ (QK QU n):=QX q 2;have q3:J.cell? ⟨z+1,3,QY⟩=QJ (QZ s):=QX q 3;have q4:J.cell? ⟨z+1,4,QY⟩=QJ (QZ x):=QX q 4;have q5:J.cell? ⟨z+1,5,QY⟩=QJ (QQ A' l.length d):=QX q 5;have M:=q_ P;clear P q r0 r1 r2 r3 r4 r5 y0 y1 y2 y3 y4 y5 g0 g1 g2 g3 g4 g5 d0 d5 f5;go_wp2_with fail;refine bodyPost_ret (v:=.agg #[QK QU k,XK t,QK QU n,QZ s,QZ x,QQ A' l.length d]) (by simp[results,Tryz.results222,go_sem,q0,q1,q2,q3,q4,q5]) rfl ⟨QQ A' l.length d,rfl,?_,?_⟩
 ·rw[S.o];exact (L.o.trans (a2.o.mono (by have:=r.o;omega))).trans (M.o.below (λi _ h=>by omega) (by omega))
 ·have h1:=a3.o.turn M.o (λb hb h=>by have:=r.o;omega);refine h1.1.mono VaR.good λb hb=>⟨?_,?_⟩
  ·have:=r.o;have:=S.o;omega
  ·have:=M.o.size;omega
def Mn_ (v:g_) (w:QV) (e:Ending) (w':QV):Prop:=∃B cb,e = XW (.agg (c_ v (QQ B v.list.length cb)))/\XU w.heap.size w w'/\VRd w' (λb=>w.heap.size<=b/\b<w'.heap.size) v (.agg (c_ v (QQ B v.list.length cb)))
theorem y8_ (v:g_) (d:∀x,x∈v.list->x.list=[]) (o:M_ v<=2000000) (F:Nat->Prop) (u:XZ) (w:QV) (b:∀g,F g->g<w.heap.size) (j:VRd w F v u) :
    Calls QW 222 #[u] w (Mn_ v w):=by
 obtain⟨A,a,rfl,_,f⟩:=j.inv;have hz:=ft_ v;have k:=ce_ v.list;refine (vs_ v A a w b f (λw' h1 h2=>(y6_ v.list F A _ a (by omega) w' h2 h1).mono λe w2 h=>y7_ d h)).mono ?_;rintro e w' ⟨s,rfl,hb,B,cb,rfl,c,i⟩;exact⟨B,cb,rfl,hb,VRd.of_list c i⟩
section
variable {α : Type} {R:bu_ α} {F G:Nat->Prop} {l:List α} {sz:Nat} {s:XZ} {E:Nat}
theorem it_ {w5 w6:QV} {x:α} {c:Array XZ} {g4 c4:Nat} {cs:Nat->Array XZ} (j:R.Good) (B:∀i,i<l.length->(cs i).size=sz) (I:∀i x,l[i]?=QJ x->R w5 (λb=>F b/\s.ownBlock≠QJ b) x (cs i)) (J:R w5 G x c) (C:c.size=sz)
    (q:∀b,G b->s.ownBlock≠QJ b) (k:∀b,F b->b<w5.heap.size) (o:∀b,G b->b<w5.heap.size)
    (D:w6.ownsRow 0 E sz (QQ (QJ ⟨g4,0,QY⟩) (l.length+1) c4) (l.length+1) (T_ cs l.length++c.toList)) (z:w5.grownBy w6 s.ownBlock) (A:s.ownBlock=QJ g4\/w5.heap.size<=g4) :
    D_ E sz R w6 (λb=>F b\/G b\/b=g4) (l++[x]) (QQ (QJ ⟨g4,0,QY⟩) (l.length+1) c4):=by
 have r:(l++[x]).length=l.length+1:=by simp
 have v:∀i,i<l.length->(λi=>if i<l.length then cs i else c) i=cs i:=λi hi=>if_pos hi
 have t:∀b,F b->s.ownBlock≠QJ b->b≠g4:=λb hb h2 e=>by
  rcases A with h | h
  ·exact h2 (by rw[h,e])
  ·have:=k b hb;omega
 have u:∀b,G b->b≠g4:=λb hb e=>by
  rcases A with h | h
  ·exact q b hb (by rw[h,e])
  ·have:=o b hb;omega
 refine⟨λi=>if i<l.length then cs i else c,?_,λi hi=>?_,λg a=>?_,λi y f=>?_⟩
 ·rw[r,di_,f5_ v,if_neg (Nat.lt_irrefl _)];exact D
 ·by_cases h:i<l.length
  ·simp only[if_pos h];exact B i h
  ·simp only[if_neg h];exact C
 ·injection a with a;exact .inr (.inr a.symm)
 ·by_cases h:i<l.length
  ·simp only[if_pos h];rw[List.getElem?_append_left h]at f;refine j.mono (j.keep (I i y f) (w':=w6) λp d=>(Turn.of_grown z).cell (k _ d.1) λe=>d.2 e.symm) λb hb=>⟨.inl hb.1,λe=>?_⟩;injection e with e;exact t b hb.1 hb.2 e.symm
  ·simp only[if_neg h];have hi:i=l.length:=by have:=b7_ f;omega
   subst hi;simp at f;subst f;refine j.mono (j.keep J (w':=w6) λp d=>(Turn.of_grown z).cell (o _ d) λe=>q _ d e.symm) λb hb=>⟨.inr (.inl hb),λe=>?_⟩;injection e with e;exact u b hb e.symm
end
theorem Hl_:(Tryz.prog.info? 69).map (λi=>(i.zero,i.size,i.bytes))=QJ (QJ (.agg #[QZ ⟨#[]⟩,QK QU 0,XK false,QK QU 0,QZ ⟨#[]⟩,QZ ⟨#[]⟩,QQ QY 0 0]),7,96):=by kernel_rfl
def h0_ (a b:ByteArray):Int:=Lib.compareBytes a.data.toList b.data.toList
structure ItP where
 p:G_
 A:Option Addr
 cap:Nat
instance:Inhabited ItP:=⟨⟨⟨⟨#[]⟩,.mk 0 false 0 ⟨#[]⟩ ⟨#[]⟩ []⟩,QY,0⟩⟩
def Cy_ (x:ItP):List XZ:=[QZ x.p.key,QK QU x.p.v.kind,XK x.p.v.truth,QK QU x.p.v.num,QZ x.p.v.text,QZ x.p.v.extra,QQ x.A x.p.v.list.length x.cap]
theorem we_ (x y:ItP) (W:QV):Calls QW 224 #[.agg (Cy_ x).toArray,.agg (Cy_ y).toArray] W λe w'=>e = XW (QK QU (h0_ x.p.key y.p.key))/\∃q d,w'=Go.Sort.grow (W.drewN q) d:=by
 have c:=λb=>(Any.strings_Compare Tryz.lays106 x.p.key y.p.key b:Calls QW 225 _ b _);have a:=q_ (λb=>(c b).mono λe w' h=>(show e = XW (QK QU (h0_ x.p.key y.p.key))/\w'=b from h));clear c;generalize h0_ x.p.key y.p.key=r at a ⊢;unfold Cy_;go_enter Tryz.func224,Tryz.ntmps224
 go_wp2_with fail;refine (a.o _).mono ?_;rintro e w' ⟨rfl,rfl⟩;go_wp2_with fail;go_ret;exact⟨rfl,0,_,by rw[Go.Sort.alloc_eq_grow,Go.Sort.alloc_eq_grow,Go.Sort.grow_grow];rfl⟩
theorem lw_ (a b:ByteArray):(h0_ a b<0)=(a.data.toList<b.data.toList):=by
 unfold h0_;generalize a.data.toList=x;generalize b.data.toList=y;induction x generalizing y with
 | nil=>cases y<;>simp[Lib.compareBytes]
 | cons u r f=>
  cases y with
  | nil=>simp[Lib.compareBytes]
  | cons v q=>
   simp only[Lib.compareBytes];by_cases h1:u<v
   ·simp[h1,List.cons_lt_cons_iff]
   ·by_cases h2:v<u
    ·have c:u≠v:=λe=>by subst e;exact h1 h2
     simp[h1,h2,List.cons_lt_cons_iff,c]
    ·have d:u=v:=UInt8.le_antisymm (UInt8.not_lt.1 h2) (UInt8.not_lt.1 h1);subst d;simp[h1,f]
theorem O5_:Go.Sort.SWO (ltOf λx y:ItP=>h0_ x.p.key y.p.key) where
 irrefl x:=by unfold ltOf;rw[decide_eq_false_iff_not,lw_];exact List.lt_irrefl _
 trans x y z h1 h2:=by unfold ltOf at *;rw [decide_eq_true_iff, lw_] at *;exact List.lt_trans h1 h2
 ntrans x y z h1 h2:=by unfold ltOf at *;rw [decide_eq_false_iff_not, lw_] at *;rw [List.not_lt] at *;exact List.le_trans h2 h1
theorem itP {w:QV} {F:Nat->Prop} {x:G_} {c:Array XZ} (h:PaR w F x c):∃e,Cy_ e=c.toList/\e.p=x:=by
 obtain⟨s,rfl,f⟩:=h;obtain⟨A,b,d,_,_⟩:=f.inv;injection d with d;obtain rfl:s = QQ A x.v.list.length b:=by have:=congrArg (λa:Array XZ=>a[5]?) d;simpa [c_] using this
 exact⟨⟨x,A,b⟩,rfl,rfl⟩
def yw_ (l c:List G_):Prop:=c.Perm l/\c.Pairwise (λa b=>¬h0_ b.key a.key<0)
theorem Ej_ {w:QV} {F:Nat->Prop} {l:List G_} {s:XZ} (h:D_ 69 7 PaR w F l s) (d:l.length<=100000000) (j:∀b,F b->b<w.heap.size) :
    Calls QW 223 #[s,.func (.func 224) #[] #[]] w λe w'=>e = XW (YY #[])/\∃c:List G_,yw_ l c/\SlR 7 PaR w' F c s/\Turn (λb=>s.ownBlock=QJ b) w w':=
 (rd_ Tryz.gsortP PaR.good (by decide) Tryz.isAgg69 Tryz.sizeOf69 Cy_ ItP.p (λ_=>rfl) (λx v f=>by simp[Cy_]at f;rcases f with rfl | rfl | rfl | rfl | rfl | rfl | rfl<;>rfl) itP (λa b=>h0_ a.key b.key) O5_ 224 (enters_of Tryz.func224 (by kernel_rfl) rfl) we_ h d j).mono λ_ _ ⟨k,c,h1,h2,g,i⟩=>⟨k,c,⟨h1,h2⟩,g,i⟩
theorem de_ {B:Nat} {w w':QV} (h:XU B w.drew w'):XU B w w':=⟨h.os,h.tape,h.output,h.size,h.block⟩
def vi_ (p:G_):Prop:=∀x,x∈p.v.list->x.list=[]
def J0_ (l:List G_) (w:QV) (e:Ending) (w':QV):Prop:=
 ∃s,e = XW s/\XU w.heap.size w w'/\∃a:List G_,yw_ l a/\SlR 7 PaR w' (λb=>w.heap.size<=b/\b<w'.heap.size) a s
theorem sz_ (l:List G_) (a0:∀p,p∈l->B5_ p/\vi_ p) (ag:l.length<=2000000) (F:Nat->Prop) (A:Option Addr) (n aq:Nat) (w:QV) (hF:∀g,F g->g<w.heap.size) (hl:SRd 7 PaR w F l A n) :
    Calls QW 154 #[QQ A n aq] w (J0_ l w):=by
 have HL:=q_ hl;have HF:=q_ hF;have ac:=q_ a0;have T:=q_ hl.1;have b1:n<=2000000:=by rw[hl.1];exact ag
 clear hl hF a0;go_enter Tryz.func154,Tryz.ntmps154
 go_wp2_with fail;go_loopw [3,8] (λs3 s8 wr=>∃k:Nat,k<=n/\s8 = QK QU (k:Nat)/\Q_ (XU w.heap.size w wr)/\Q_ (D_ 69 7 PaR wr (λb=>w.heap.size<=b/\b<wr.heap.size) (l.take k) s3)) (λ_ s8 _=>n-(intOf s8).toNat)
 case atStart=>exact⟨0,by omega,rfl,q_ (XV _ _),q_ (D_.nil ..)⟩
 case round=>
  obtain⟨k,hk,rfl,hB,hO⟩:=hrel;by_cases aw:k<n
  ·obtain⟨x,hx⟩:∃x,l[k]?=QJ x:=⟨l[k]'(by rw[<-T.o];exact aw),XQ _⟩;have HX:=q_ hx;have a9:=q_ (ac.o x (YQ hx));have a2:(l.take k).length=k:=by rw[List.length_take];have:=T.o;omega
   obtain⟨X,c3,h3⟩:=hO.o.form;rw[a2]at h3;subst h3;have O:=q_ a2;obtain⟨ad,s,rfl,ar,hv,c0,c1,c2,ap,c4,c5,c6⟩:=lz_ (HL.o.under PaR.good hB.o HF.o) hx;obtain⟨B,cb,M,_,_⟩:=hv.inv;injection M with M;obtain rfl:s = QQ B x.v.list.length cb:=by have:=congrArg (λa:Array XZ=>a[5]?) M;simpa [c_] using this
   have HV:=q_ hv;clear hx ar hv M a2;obtain⟨C,I⟩:=a_ x.v.list.length;rw[I.o]at c6 HV;obtain⟨z,Hz⟩:=a_ wr.heap.size;obtain⟨w5,P⟩:=a_ (wr.alloc (XX #[QZ x.key,QK QU x.v.kind,XK x.v.truth,QK QU x.v.num,QZ x.v.text,QZ x.v.extra,QQ B C cb] 69));have D:=q_ (show XU wr.heap.size wr w5 from by rw[<-P.o];exact (XV _ _).alloc (XJ _) _);have d:=q_ (show w5.heap[z]?=QJ (XX #[QZ x.key,QK QU x.v.kind,XK x.v.truth,QK QU x.v.num,QZ x.v.text,QZ x.v.extra,QQ B C cb] 69 (0,0)) from by rw[<-P.o,<-Hz.o];exact heap_alloc_new wr _);have a7:=q_ (show w5.heap.size=z+1 from by rw[<-P.o,<-Hz.o];simp);have e1:(0:Int)<=k:=by omega
   have e2:(k:Int)<n:=by omega
   go_upto_region 5 with fail;rw[P.o,Hz.o];have a1:w.heap.size<=wr.heap.size:=hB.o.size;have a8:=q_ (y8_ x.v a9.o.2 a9.o.1.2 F _ w5.drew (λg hg=>XY (HF.o g hg) (YK a1 D.o.size)) ((HV.o.under D.o (λg hg=>XY (HF.o g hg) a1)).drewN 1));unfold c_ at a8;have d0:w5.drew.cell? ⟨z,0,none⟩=some (QZ x.key):=QX d.o 0;have d1:w5.drew.cell? ⟨z,1,none⟩=some (QK QU x.v.kind):=QX d.o 1;have d2:w5.drew.cell? ⟨z,2,none⟩=some (XK x.v.truth):=QX d.o 2;have d3:w5.drew.cell? ⟨z,3,none⟩=some (QK QU x.v.num):=QX d.o 3;have d4:w5.drew.cell? ⟨z,4,none⟩=some (QZ x.v.text):=QX d.o 4;have d5:w5.drew.cell? ⟨z,5,none⟩=some (QZ x.v.extra):=QX d.o 5;have d6:w5.drew.cell? ⟨z,6,none⟩=some (QQ B C cb):=QX d.o 6;obtain⟨cs,t,U,f,r⟩:=(hO.o.turn PaR.good (Turn.of_below D.o) (λb hb=>hb.2) (λb hb h=>by obtain⟨_,h1⟩:=hb;omega));rw[O.o]at t U;have af:=q_ t;have N:=q_ (And.intro U (And.intro f r));clear c0 c1 c2 ap c4 c5 c6 t U f r;obtain⟨i0,au,ah,ai,aj⟩:=info_parts Hl_;go_region_law (first | (refine step_append_lies _ rfl _ _ 70 rfl 0 69 i0 (.agg #[QZ ⟨#[]⟩,QK QU 0,XK false,QK QU 0,QZ ⟨#[]⟩,QZ ⟨#[]⟩,QQ none 0 0]) 7 96 Tryz.underlying70 au ah ai aj rfl (by decide) (QQ X k c3) k (T_ cs k) rfl (by exact a4.o.alloc _) ⟨w6.heap.size,0,none⟩ 1 1 [QZ x.key,QK QU x.v.kind,XK x.v.truth,QK QU x.v.num,QZ x.v.text,QZ x.v.extra,QQ L C q] rfl rfl (World.news_of_block (cs:=#[QZ x.key,QK QU x.v.kind,XK x.v.truth,QK QU x.v.num,QZ x.v.text,QZ x.v.extra,QQ L C q]) (by exact NB.o)) ae.o (by omega) (by unfold maxLen;omega) (by omega) (Nat.zero_le _) (w6.heap.size+1) (by exact am.o) (λg7 c7 w7 J j aa _=>?_);have ak:=q_ J;have Z:=q_ (show w6.grownBy w7 (Value.slice X k c3).ownBlock from az_ (w:=w6) (o:=XX #[QZ x.key,QK QU x.v.kind,XK x.v.truth,QK QU x.v.num,QZ x.v.text,QZ x.v.extra,QQ L C q] 69) ⟨j.os,j.tape,j.output,j.size,j.block⟩);have a5:=q_ (show (Value.slice X k c3).ownBlock=some g7\/g7=w6.heap.size+1 from aa);clear J j aa) | (go_simp;go_at_call 222;(with_reducible refine a8.o.mono ?_);rintro e w6 ⟨L,q,rfl,S,a3⟩;rw[I.o]at a3;unfold c_;rw[I.o];have Y:=q_ S;have ao:=q_ a3;have a4:=q_ ((Turn.of_below S).owns af.o (λg hg h=>by have:=N.o.2.1 g hg;have h2:w5.heap.size<=g:=h;have:=D.o.size;omega));have b0:w6.cell? ⟨z,0,none⟩=some (QZ x.key):=QX ((S.block z (by show z<w5.heap.size;rw[a7.o];omega)).trans d.o) 0;have ae:=q_ (show ∀u∈([QZ x.key,QK QU x.v.kind,XK x.v.truth,QK QU x.v.num,QZ x.v.text,QZ x.v.extra,QQ L C q]:List XZ),u.oneCell'=true from λu M=>by simp at M;rcases M with rfl | rfl | rfl | rfl | rfl | rfl | rfl<;>rfl);have NB:=q_ (heap_alloc_new w6 (XX #[QZ x.key,QK QU x.v.kind,XK x.v.truth,QK QU x.v.num,QZ x.v.text,QZ x.v.extra,QQ L C q] 69));have am:=q_ (show (w6.alloc (XX #[QZ x.key,QK QU x.v.kind,XK x.v.truth,QK QU x.v.num,QZ x.v.text,QZ x.v.extra,QQ L C q] 69)).heap.size=w6.heap.size+1 by simp);clear S a3))
   all_goals (
    have w1:IntKind.i64.wrap ((k:Int)+1)=(k:Int)+1:=IntWalk.i64_in _ (by omega);go_wp2_with fail;go_roundw)
   all_goals first
    | (case measure=>simp[intOf];omega)
    | (case rel=>
        obtain⟨U,f,r⟩:=N.o;have b3:w5.heap.size<=w6.heap.size:=Y.o.size;have b4:w6.heap.size<=w7.heap.size:=Z.o.size;have az:=a7.o;have hz:=Hz.o;have J:=ak.o;have j:g7<w7.heap.size:=(J.lt g7 rfl).2
        have ab:=it_ (w5:=w6) (w6:=w7) (R:=PaR) (E:=69) (sz:=7) (F:=λb=>w.heap.size<=b/\b<wr.heap.size) (G:=λb=>w5.heap.size<=b/\b<w6.heap.size) (l:=l.take k) (x:=x) (s:=QQ X k c3) (c:=dc_ x (QQ L x.v.list.length q)) (g4:=g7) (c4:=c7) (cs:=cs) PaR.good
         (λi hi=>U i (by rw[O.o]at hi;exact hi)) (λi y hy=>PaR.good.keep (r i y hy) (λp W=>Y.o.cell (show p.block<w5.heap.size from by have:=W.1.2;omega)))
         ⟨_,rfl,by rw[I.o];exact ao.o⟩ rfl (λb hb e=>by have:=(f b e).2;have:=hb.1;omega) (λb hb=>by have:=hb.2;omega) (λb hb=>hb.2) (by rw[O.o];unfold dc_;rw[I.o];exact J) Z.o (by rcases a5.o with e | e;exact .inl e;exact .inr (by omega))
        rw[O.o]at ab;refine⟨k+1,by omega,by go_num,q_ ?_,q_ ?_⟩
        ·exact ((hB.o.trans (D.o.mono (by omega))).trans ((de_ Y.o).mono (show w.heap.size<=w5.heap.size from by omega))).trans ((Turn.of_grown Z.o).below (λb _ hb=>(f b hb.symm).1) (by omega))
        ·rw[f_ HX.o];refine ab.mono PaR.good λb hb=>?_;rcases hb with hb | hb | hb
         ·exact⟨hb.1,by have:=hb.2;omega⟩
         ·exact⟨by have:=hb.1;omega,by have:=hb.2;omega⟩
         ·subst hb;refine⟨?_,j⟩;rcases a5.o with h | h
          ·exact (f b h).1
          ·omega)
  ·have av:k=n:=by omega
   subst av;have ay:=q_ (show l.take k=l from List.take_of_length_le (by rw[T.o];exact XJ _));obtain⟨X,c3,h3⟩:=hO.o.form;rw[ay.o]at hO h3;subst h3;have a6:=hO;have HS:=q_ (Ej_ a6.o (by rw[<-T.o];omega) (λb hb=>hb.2));go_wp2_with fail;refine HS.o.mono ?_;rintro e w6 ⟨rfl,l',W,r,ht⟩;have HR:=q_ (And.intro W (And.intro r ht));clear W r ht;go_wp2_with fail;go_ret;obtain⟨W,r,ht⟩:=HR.o;obtain⟨cs,t,U,f,b2⟩:=a6.o;refine⟨_,rfl,hB.o.trans (ht.below (λi _ hi=>(f i hi).1) hB.o.size),l',W,r.mono PaR.good (λb hb=>⟨hb.1,XY hb.2 ht.size⟩)⟩
end
end Go.Proofs.YtefhfadjajcmkaaGreatDoor
