/- A map of whole numbers to values, each number put in once: what a look-up tells, what a store makes. -/
import Derived.Test.YtefhfadjajcmkaaGreatDoorJK
set_option linter.unusedVariables false
set_option linter.unusedSimpArgs false
namespace Go.Proofs.YtefhfadjajcmkaaGreatDoor
open Go.Lib (cell_of_heap)
section
open Go Go.RowKit Go.Maps
def hw_:h_:=.mk 0 false 0 ⟨#[]⟩ ⟨#[]⟩ []
def mk_ (o:Option C_) (k:ByteArray):Bool:=match o with | some p=>decide (p.key=k) | none=>false
def ji_ (n:i_):Bool:=decide (n.labels.length=1)&&(decide (1<=n.props.length)&&(decide (n.props.length<=2)&&(mk_ n.props[0]? sV&&(decide (n.props.length≠2) || mk_ n.props[1]? sX))))
def m8_ (s:ByteArray) (p:h_) (r:List C_):h_:=
 if s=En_ then .mk 8 false 0 p.text ⟨#[]⟩ [] else if s=om_ then .mk 9 false 0 p.text ⟨#[]⟩ [] else if s=Eo_ then .mk 10 false 0 p.text (match r with | [q]=>q.v.text | _=>⟨#[]⟩) [] else if s=Ep_ then p else hw_
def ko_ (n:i_):h_:=match n.labels,n.props with | [s],p::r=>m8_ s p.v r | _,_=>hw_
noncomputable def bw_ (n:i_):h_×Bool:=if ji_ n=true then (if (ko_ n).kind=0\/(ko_ n).kind=5\/I_ (ko_ n) 0=false then (hw_,false) else (ko_ n,e8_ (E_ n.id (ko_ n)) n)) else (hw_,false)
theorem rq_ {v:h_} {d:Nat} (h:I_ v d=true) (a:v.kind≠5):v.list=[]:=by
 cases v with
 | mk k b n t x l=>
  change k≠5 at a;unfold I_ at h;show l=[];rw[if_neg a]at h;repeat' split at h
  all_goals first
   | exact (dv_ h a).2.2.2.2
   | (rw[Bool.and_eq_true]at h;exact (dv_ h.2 a).2.2.2.2)
   | (rw[Bool.and_eq_true,Bool.and_eq_true]at h;exact (dv_ h.2.2 a).2.2.2.2)
   | cases h
theorem f8_ {d:Int} {L:List ByteArray} {P:List C_} {b a:Nat} (c:L.length=b) (e:P.length=a):ji_ ⟨d,L,P⟩=(decide (b=1)&&(decide (1<=a)&&(decide (a<=2)&&(mk_ P[0]? sV&&(decide (a≠2) || mk_ P[1]? sX))))):=by subst c e;rfl
theorem yg_:(#[.int .i64 0,.bool false,.int .i64 0,.string ⟨#[]⟩,.string ⟨#[]⟩,.slice none 0 0]:Array Value).all (·.oneCell')=true:=by kernel_rfl
theorem kp_:(Tryz.prog.info? 39).map (·.size)=some (#[.int .i64 0,.bool false,.int .i64 0,.string ⟨#[]⟩,.string ⟨#[]⟩,.slice none 0 0]:Array Value).size:=by kernel_rfl
theorem yh_ (k:Int) (t:ByteArray):(#[.int .i64 k,.bool false,.int .i64 0,.string t,.string ⟨#[]⟩,.slice none 0 0]:Array Value).all (·.oneCell')=true:=by kernel_rfl
theorem tm_ (k:Int) (t:ByteArray):(Tryz.prog.info? 39).map (·.size)=some (#[.int .i64 k,.bool false,.int .i64 0,.string t,.string ⟨#[]⟩,.slice none 0 0]:Array Value).size:=by kernel_rfl
theorem wf_ {s:ByteArray} {p:h_} {r:List C_} (a:T_ p<=2000000) (c:∀q,q∈r->T_ q.v<=2000000):T_ (m8_ s p r)<=5000000:=by
 have ht:∀v:h_,T_ v<=2000000->v.text.size / 64<=2000000:=λv h=>by
  cases v with
  | mk k b n t x l=>
   simp only[T_]at h;show t.size / 64<=2000000;omega
 have h1:∀(k:Int) (t x:ByteArray),t.size / 64<=2000000->x.size / 64<=2000000->T_ (.mk k false 0 t x [])<=5000000:=λk t x h1 h2=>by
  simp only[T_,ab_];omega
 have h0:(⟨#[]⟩:ByteArray).size / 64<=2000000:=by decide
 unfold m8_;split
 ·exact h1 _ _ _ (ht _ a) h0
 ·split
  ·exact h1 _ _ _ (ht _ a) h0
  ·split
   ·refine h1 _ _ _ (ht _ a) ?_;split
    ·exact ht _ (c _ (by simp))
    ·exact h0
   ·split
    ·omega
    ·decide
theorem l2_ (a:Int) (v:h_):(E_ a v).labels.length<=1000000000/\(E_ a v).props.length<=1000000000:=by
 unfold E_
 (repeat' split)<;>exact⟨by simp,by simp⟩
theorem pq_ (b:Int) {v:h_} (h:v.list=[]):∀p,p∈(E_ b v).props->p.v.list=[]:=by
 unfold E_
 (repeat' split)<;>intro p a<;>simp at a
 ·rw[a];rfl
 ·rw[a];rfl
 ·rcases a with rfl | rfl<;>rfl
 ·rw[a];exact h
theorem ni_ (k:Int) (s:ByteArray) (w:World):(Instr.build 39 #[(0,.int .i64 k),(3,.string s)]).run Tryz.prog w = .ok (.agg #[.int .i64 k,.bool false,.int .i64 0,.string s,.string ⟨#[]⟩,.slice none 0 0]) w:=by kernel_rfl
theorem ql_ {w:World} {g j:Nat} {c:Array Value} {T:TypeId} (a:w.heap[g]?=some (.cells c T (0,0))) (b:j<c.size) (s:ByteArray):(Instr.storeAt 9 (.pointer (some ⟨g,j,none⟩)) (.string s)).run Tryz.prog w = .ok () (w.setCell ⟨g,j,none⟩ (.string s)):=by have h1:=cell_of_heap a j;have h2:=Lib.frozen_of_heap a j;have d:w.cell? ⟨g,j,none⟩=some c[j]:=h1.trans (Array.getElem?_eq_getElem b);go_simp
def nj_ (n:i_) (w:World) (e:Ending) (w':World):Prop:=∃A a,e = .returned (.tuple #[.agg (c_ (bw_ n).1 (.slice A 0 a)),.bool (bw_ n).2])/\Below w.heap.size w w'
set_option maxRecDepth 100000 in
set_option maxHeartbeats 16000000 in
theorem rr_ (c:Int) (L:List ByteArray) (P:List C_) (F:Nat->Prop) (u:Array Value) (w:World) (hF:∀b,F b->b<w.heap.size) (hu:NoR w F ⟨c,L,P⟩ u) (hg:F_ w) (hn:qi_ ⟨c,L,P⟩) :
    Calls Tryz.prog 78 #[.agg u] w (nj_ ⟨c,L,P⟩ w):=by
 have HU:=q_ hu;have HF:=q_ hF;have HG:=q_ hg;have bu:=q_ hn;obtain⟨_,_,e0,⟨A1,c1,e1,_,bk⟩,⟨A2,U,e2,_,bq⟩⟩:=hu;subst e1 e2 e0;change SRd 1 TxR w F L A1 L.length at bk;change SRd 7 PaR w F P A2 P.length at bq;obtain⟨n1,D⟩:=a_ L.length;obtain⟨n,f⟩:=a_ P.length;have HL:=q_ (show ∀W:World,Below w.heap.size w W->SRd 1 TxR W F L A1 n1 from λW hb=>by rw[<-D.o];exact bk.under TxR.good hb hF);have HP:=q_ (show ∀W:World,Below w.heap.size w W->SRd 7 PaR W F P A2 n from λW hb=>by rw[<-f.o];exact bq.under PaR.good hb hF);change Calls Tryz.prog 78 #[.agg #[.int .i64 c,.slice A1 L.length c1,.slice A2 P.length U]] w (nj_ ⟨c,L,P⟩ w);rw[D.o,f.o];clear bk bq hF hg hn;obtain⟨z,Hz⟩:=a_ w.heap.size;obtain⟨w2,ai⟩:=a_ ((w.alloc (.cells #[.int .i64 c,.slice A1 n1 c1,.slice A2 n U] 72)).alloc (.cells #[.int .i64 0,.bool false,.int .i64 0,.string ⟨#[]⟩,.string ⟨#[]⟩,.slice none 0 0] 39));have y:=q_ (show Below w.heap.size w w2 from by rw[<-ai.o];exact L_ w _ _);have ag:=q_ (show w2.heap[z]?=some (.cells #[.int .i64 c,.slice A1 n1 c1,.slice A2 n U] 72 (0,0)) from by rw[<-ai.o,<-Hz.o];exact heap_alloc2_old w _ _);have b5:=q_ (show w2.heap[z+1]?=some (.cells #[.int .i64 0,.bool false,.int .i64 0,.string ⟨#[]⟩,.string ⟨#[]⟩,.slice none 0 0] 39 (0,0)) from by rw[<-ai.o,<-Hz.o];exact heap_alloc2_new w _ _);obtain⟨sh,B⟩:=a_ (ji_ ⟨c,L,P⟩);have x1:w2.cell? ⟨z,1,none⟩=some (.slice A1 n1 c1):=cell_of_heap ag.o 1;have x2:w2.cell? ⟨z,2,none⟩=some (.slice A2 n U):=cell_of_heap ag.o 2;go_enter Tryz.func78,Tryz.ntmps78
 go_upto_region 1 with fail;rw[ai.o,Hz.o];clear ai;go_cut [43] (λdj R=>dj = .bool (!sh)/\R=w2)
 case first=>
  by_cases h1:n1=1
  ·subst h1;by_cases h2:n<1
   ·have a1:(n:Int)<1:=by omega
    have N:=q_ (show sh=false from by rw[<-B.o];unfold ji_;simp[D.o,f.o];omega);go_wp2_with fail;go_meet;exact⟨by rw[N.o];rfl,rfl⟩
   ·have a1:¬(n:Int)<1:=by omega
    by_cases h3:2<n
    ·have a2:(2:Int)<n:=by omega
     have N:=q_ (show sh=false from by rw[<-B.o];unfold ji_;simp[D.o,f.o];omega);go_wp2_with fail;go_meet;exact⟨by rw[N.o];rfl,rfl⟩
    ·have a2:¬(2:Int)<n:=by omega
     obtain⟨p,hp⟩:∃p,P[0]?=some p:=⟨_,List.getElem?_eq_getElem (by rw[f.o];omega)⟩;obtain⟨ad,cp,rfl,d8,_,av,bg⟩:=(HP.o w2 y.o).at_ hp;obtain⟨Ap,qp,d1⟩:=ht_ bg;have k0:w2.cell? (ad.add 0)=some (.string p.key):=by have:=av 0 (by omega);rw[d1]at this;exact this
     rw[show ad.add 0=ad from by first | exact Addr.add_zero ad | (cases ad;rfl)]at k0;obtain⟨kp,aj⟩:=a_ p.key;rw[aj.o]at k0;by_cases hk:kp=sV
     ·subst hk;unfold sV at k0;by_cases h4:n=2
      ·subst h4;obtain⟨q,hq⟩:∃q,P[1]?=some q:=⟨_,List.getElem?_eq_getElem (by rw[f.o];omega)⟩;obtain⟨de,cq,e5,br,_,b6,da⟩:=(HP.o w2 y.o).at_ hq;injection e5 with e5;subst e5;obtain⟨Aq,qq,b1⟩:=ht_ da;have k1:w2.cell? (ad.add 7)=some (.string q.key):=by have:=b6 0 (by omega);rw[b1]at this;exact this
       obtain⟨kq,bf⟩:=a_ q.key;rw[bf.o]at k1;have k2:w2.cell? ⟨ad.block,ad.off+7,none⟩=some (.string kq):=k1;by_cases bi:kq=sX
       ·subst bi;unfold sX at k2;have N:=q_ (show sh=true from by rw[<-B.o,f8_ D.o f.o,hp,hq];unfold mk_;simp[aj.o,bf.o]);go_wp2_with fail;go_meet;exact⟨by rw[N.o];rfl,rfl⟩
       ·have t3:(kq.toList==[120])=false:=by have h:=bi_ bi;unfold sX at h;simpa using h
        have N:=q_ (show sh=false from by rw[<-B.o,f8_ D.o f.o,hp,hq];unfold mk_;simp[aj.o,bf.o,bi]);go_wp2_with fail;go_meet;exact⟨by rw[N.o];rfl,rfl⟩
      ·have a4:¬((n:Int)=2):=by omega
       have N:=q_ (show sh=true from by rw[<-B.o,f8_ D.o f.o,hp];unfold mk_;simp[aj.o,h4];omega);go_wp2_with fail;go_meet;exact⟨by rw[N.o];rfl,rfl⟩
     ·have t2:(kp.toList==[118])=false:=by have h:=bi_ hk;unfold sV at h;simpa using h
      have N:=q_ (show sh=false from by rw[<-B.o,f8_ D.o f.o,hp];unfold mk_;simp[aj.o,hk]);go_wp2_with fail;go_meet;exact⟨by rw[N.o];rfl,rfl⟩
  ·have t1:((n1:Int)==1)=false:=by simp;omega
   have N:=q_ (show sh=false from by rw[<-B.o];unfold ji_;simp[D.o,h1]);go_wp2_with fail;go_meet;exact⟨by rw[N.o];rfl,rfl⟩
 case rest=>
  obtain⟨a9,ew⟩:=hcut;rw[ew];clear ew x1 x2
  cases sh with
  | false=>
   have a9:=a9.trans (show Value.bool (!false) = .bool true from rfl);subst a9;go_wp2_with ((with_reducible refine z_ 2 ?_);refine r_ rfl 39 _ _ rfl (z+1) (#[.int .i64 0,.bool false,.int .i64 0,.string ⟨#[]⟩,.string ⟨#[]⟩,.slice none 0 0]) (#[.int .i64 0,.bool false,.int .i64 0,.string ⟨#[]⟩,.string ⟨#[]⟩,.slice none 0 0]) 39 rfl rfl b5.o rfl kp_ yg_ ?_;intro w3 bh bs)
   have HT:=q_ (show bw_ ⟨c,L,P⟩=(hw_,false) from by unfold bw_;rw[B.o];rfl);refine bodyPost_ret (v:=.tuple #[.agg #[.int .i64 0,.bool false,.int .i64 0,.string ⟨#[]⟩,.string ⟨#[]⟩,.slice none 0 0],.bool false]) (b1_ Tryz.results78 (g:=z+1) rfl bh _ Tryz.underlying39 rfl kp_ rfl) rfl ⟨none,0,by rw[HT.o];rfl,j_ y.o bs (λb e=>by have e:b=z+1:=e;have h2:w.heap.size=z:=Hz.o;omega)⟩
  | true=>
   have a9:=a9.trans (show Value.bool (!true) = .bool false from rfl);subst a9;have bl:=B.o;rw[f8_ D.o f.o]at bl;simp only[Bool.and_eq_true,decide_eq_true_eq]at bl;obtain⟨bx,dp,dm,Z,dh⟩:=bl;obtain⟨s,hs⟩:∃s,L=[s]:=List.length_eq_one_iff.1 (D.o.trans bx)
   obtain⟨p,r,bg⟩:∃p r,P=p::r:=by
    cases P with
    | nil=>have:=f.o;simp at this;omega
    | cons p r=>exact⟨p,r,rfl⟩
   have dd:=q_ (And.intro dp dm);subst bx hs bg;obtain⟨ad,cp,rfl,d8,_,av,d4⟩:=(HP.o w2 y.o).at_ (i:=0) (x:=p) rfl;obtain⟨sl,rfl,bb⟩:=d4;obtain⟨vp,J⟩:=H_ p.v sl;have b0:=q_ (am_.trans (congrArg some J.size.symm));have cl:=q_ (show vp.all (·.oneCell')=true from by obtain⟨A,I,e,_⟩:=bb.inv;rw[J.o]at e;injection e with e;rw[e];kernel_rfl);have c8:=q_ (λj (hj:j<vp.size)=>(show w2.cell? ((⟨ad.block,ad.off+1,none⟩:Addr).add j)=vp[j]? from by have h:=av (1+j) (by rw[J.size]at hj;omega);rw[hs_ p sl j (by rwa [J.size]at hj),J.o]at h;rw[<-h,Nat.zero_mul,Nat.zero_add];exact congrArg w2.cell? (by rw[show (⟨ad.block,ad.off+1,none⟩:Addr)=ad.add 1 from rfl,add_of_add])));obtain⟨O,ls,rfl,d2,_,cr,b8⟩:=(HL.o w2 y.o).at_ (i:=0) (x:=s) rfl;have b8:ls=#[.string s]:=b8;have b2:=cr 0 (by omega);rw[b8]at b2
   have LL:=q_ (λ(W:World) (hb:Below w2.heap.size w2 W)=>(show W.cell? O=some (.string s) from by
    have e:O.add 0=O:=by first | exact Addr.add_zero O | (cases O;rfl)
    rw[Nat.zero_mul,Nat.zero_add,e]at b2;rw[hb.cell (p:=O) (Nat.lt_of_lt_of_le (HF.o _ d2) y.o.size)];exact b2))
   have x2:w2.cell? ⟨z,2,none⟩=some (.slice (some ad) n U):=cell_of_heap ag.o 2;have a1:(0:Int)<n:=by omega
   clear av cr b8 b2 Z dh;obtain⟨V,aa⟩:=a_ w2.heap.size;obtain⟨wa,au⟩:=a_ (w2.alloc (.cells #[.int .i64 0,.bool false,.int .i64 0,.string ⟨#[]⟩,.string ⟨#[]⟩,.slice none 0 0] 39));have db:=q_ (show Below w2.heap.size w2 wa from by rw[<-au.o];exact (Below.refl _ _).alloc (Nat.le_refl _) _);have cf:=q_ (show wa.heap[V]?=some (.cells #[.int .i64 0,.bool false,.int .i64 0,.string ⟨#[]⟩,.string ⟨#[]⟩,.slice none 0 0] 39 (0,0)) from by rw[<-au.o,<-aa.o];exact heap_alloc_new w2 _)
   go_upto_region 4 with (first
    | ((with_reducible refine e_ (some 49) ?_);refine M_ (by rfl) 39 _ rfl rfl vp _ c8.o Tryz.underlying39 rfl b0.o ?_)
    | ((with_reducible refine z_ 4 ?_);rw[au.o,aa.o];refine r_ rfl 39 _ _ rfl V (#[.int .i64 0,.bool false,.int .i64 0,.string ⟨#[]⟩,.string ⟨#[]⟩,.slice none 0 0]) vp 39 rfl rfl cf.o J.size b0.o cl.o ?_;intro wb cg ci))
   have ba:=q_ cg;have c7:=q_ (show Below w2.heap.size w2 wb from j_ db.o ci (λb e=>by have e:b=V:=e;have h2:w2.heap.size=V:=aa.o;omega));clear cg ci au cf c8 x2;obtain⟨z5,ao⟩:=a_ wb.heap.size;obtain⟨cb,am⟩:=a_ (wb.alloc (.cells #[.int .i64 0,.bool false,.int .i64 0,.string ⟨#[]⟩,.string ⟨#[]⟩,.slice none 0 0] 39));have cu:=q_ (show Below wb.heap.size wb cb from by rw[<-am.o];exact (Below.refl _ _).alloc (Nat.le_refl _) _);have bz:=q_ (show cb.heap[z5]?=some (.cells #[.int .i64 0,.bool false,.int .i64 0,.string ⟨#[]⟩,.string ⟨#[]⟩,.slice none 0 0] 39 (0,0)) from by rw[<-am.o,<-ao.o];exact heap_alloc_new wb _);go_upto_region 5 with ((with_reducible refine z_ 5 ?_);rw[am.o,ao.o];refine r_ rfl 39 _ _ rfl z5 (#[.int .i64 0,.bool false,.int .i64 0,.string ⟨#[]⟩,.string ⟨#[]⟩,.slice none 0 0]) (#[.int .i64 0,.bool false,.int .i64 0,.string ⟨#[]⟩,.string ⟨#[]⟩,.slice none 0 0]) 39 rfl rfl bz.o rfl kp_ yg_ ?_;intro wd cm c3)
   have ac:=q_ cm;have c5:=q_ (show Below wb.heap.size wb wd from j_ cu.o c3 (λb e=>by have e:b=z5:=e;have h2:wb.heap.size=z5:=ao.o;omega));have cj:=q_ ((c5.o.block V (b_ ba.o)).trans ba.o);have C:=q_ (show Below w2.heap.size w2 wd from c7.o.trans (c5.o.mono c7.o.size));have ak:=q_ ((C.o.block z (b_ ag.o)).trans ag.o);have c4:=q_ ((C.o.block (z+1) (b_ b5.o)).trans b5.o);have cv:=q_ (show Below w.heap.size w wd from y.o.trans (C.o.mono y.o.size));have M:=q_ (show V<z5/\z+1<V/\w.heap.size=z from ⟨by have:=b_ ba.o;have h2:wb.heap.size=z5:=ao.o;omega,by have:=b_ b5.o;have h2:w2.heap.size=V:=aa.o;omega,Hz.o⟩);clear cm c3 am bz;have x1:wd.cell? ⟨z,1,none⟩=some (.slice (some O) 1 c1):=cell_of_heap ak.o 1;have l0:=LL.o wd C.o;go_upto_block 0 with fail;obtain⟨o,Ho⟩:=a_ (m8_ s p.v r);obtain⟨Y,af⟩:=a_ p.v.text;have p3:wd.cell? ⟨V,3,none⟩=some (.string Y):=(cell_of_heap cj.o 3).trans (by rw[<-J.o,<-af.o];rfl)
   have ce:=q_ (show ∀W:World,Below w2.heap.size w2 W->VRd W F p.v (.agg vp) from λW hb=>by
    have h:=bb.under hb (λb hb=>Nat.lt_of_lt_of_le (HF.o b hb) y.o.size);rwa [J.o]at h)
   clear bb l0;go_cut [55] (λ_ R=>Q_ (∃(A:Option Addr) (I:Nat),R.heap[z5]?=some (.cells (c_ o (.slice A o.list.length I)) 39 (0,0))/\VRd R F o (.agg (c_ o (.slice A o.list.length I)))/\Turn (λb=>b=z5) wd R))
   case first=>
    have a3:=q_ (show ∀(k:Int) (t:ByteArray) (e:ByteArray) (W:World),VRd W F (.mk k false 0 t e []) (.agg (c_ (.mk k false 0 t e []) (.slice none 0 0))) from λk t e W=>jc_ W F rfl none 0);by_cases a5:s=En_
    ·subst a5;have E:=q_ (show o = .mk 8 false 0 Y ⟨#[]⟩ [] from by rw[<-Ho.o,<-af.o];unfold m8_;rw[if_pos rfl]);unfold En_
     go_wp2_with (first
      | ((with_reducible refine e_ (some 59) ?_);refine O_ rfl 39 _ rfl #[(0,.int .i64 8),(3,.string Y)] (by kernel_rfl) _ (ni_ _ _ _) ?_)
      | ((with_reducible refine z_ 5 ?_);refine r_ rfl 39 _ _ rfl z5 (#[.int .i64 0,.bool false,.int .i64 0,.string ⟨#[]⟩,.string ⟨#[]⟩,.slice none 0 0]) (#[.int .i64 8,.bool false,.int .i64 0,.string Y,.string ⟨#[]⟩,.slice none 0 0]) 39 rfl rfl ac.o rfl (tm_ _ _) (yh_ _ _) ?_;intro X T G))
     go_meet;exact q_ ⟨none,0,by rw[E.o];exact T,by rw[E.o];exact a3.o _ _ _ _,G⟩
    ·have t1:(s.toList==[73,114,105])=false:=by have h:=bi_ a5;unfold En_ at h;simpa using h
     by_cases a7:s=om_
     ·subst a7;have E:=q_ (show o = .mk 9 false 0 Y ⟨#[]⟩ [] from by rw[<-Ho.o,<-af.o];unfold m8_;rw[if_neg (by decide),if_pos rfl]);clear t1 a5;unfold om_
      go_wp2_with (first
       | ((with_reducible refine e_ (some 64) ?_);refine O_ rfl 39 _ rfl #[(0,.int .i64 9),(3,.string Y)] (by kernel_rfl) _ (ni_ _ _ _) ?_)
       | ((with_reducible refine z_ 5 ?_);refine r_ rfl 39 _ _ rfl z5 (#[.int .i64 0,.bool false,.int .i64 0,.string ⟨#[]⟩,.string ⟨#[]⟩,.slice none 0 0]) (#[.int .i64 9,.bool false,.int .i64 0,.string Y,.string ⟨#[]⟩,.slice none 0 0]) 39 rfl rfl ac.o rfl (tm_ _ _) (yh_ _ _) ?_;intro X T G))
      go_meet;exact q_ ⟨none,0,by rw[E.o];exact T,by rw[E.o];exact a3.o _ _ _ _,G⟩
     ·have t2:(s.toList==[66,108,97,110,107])=false:=by have h:=bi_ a7;unfold om_ at h;simpa using h
      by_cases ah:s=Eo_
      ·subst ah;clear t1 t2 a5 a7;unfold Eo_
       go_upto_region 12 with (first
        | ((with_reducible refine e_ (some 69) ?_);refine O_ rfl 39 _ rfl #[(0,.int .i64 10),(3,.string Y)] (by kernel_rfl) _ (ni_ _ _ _) ?_)
        | ((with_reducible refine z_ 5 ?_);refine r_ rfl 39 _ _ rfl z5 (#[.int .i64 0,.bool false,.int .i64 0,.string ⟨#[]⟩,.string ⟨#[]⟩,.slice none 0 0]) (#[.int .i64 10,.bool false,.int .i64 0,.string Y,.string ⟨#[]⟩,.slice none 0 0]) 39 rfl rfl ac.o rfl (tm_ _ _) (yh_ _ _) ?_;intro X T G))
       have bc:=q_ T;have bd:=q_ G;have x2:X.cell? ⟨z,2,none⟩=some (.slice (some ad) n U):=cell_of_heap ((G.block z (b_ ak.o) (λe=>by have e:z=z5:=e;have:=M.o;omega)).trans ak.o) 2;clear T G p3
       cases r with
       | nil=>
        have E:=q_ (show o = .mk 10 false 0 Y ⟨#[]⟩ [] from by rw[<-Ho.o,<-af.o];unfold m8_;rw[if_neg (by decide),if_neg (by decide),if_pos rfl]);have hn:n=1:=f.o.symm;subst hn;go_wp2_with fail;go_meet;exact q_ ⟨none,0,by rw[E.o];exact bc.o,by rw[E.o];exact a3.o _ _ _ _,bd.o⟩
       | cons q r=>
        have hr:r=[]:=by
         have:=dd.o.2;have:=f.o
         cases r with
         | nil=>rfl
         | cons _ _=>simp at this;omega
        subst hr;have hn:n=2:=f.o.symm;subst hn;obtain⟨tq,ck⟩:=a_ q.v.text;have E:=q_ (show o = .mk 10 false 0 Y tq [] from by rw[<-Ho.o,<-af.o,<-ck.o];unfold m8_;rw[if_neg (by decide),if_neg (by decide),if_pos rfl]);obtain⟨de,cq,e5,br,_,b6,sq,b1,_⟩:=(HP.o w2 y.o).at_ (i:=1) (x:=q) rfl;injection e5 with e5;subst e5
        have k3:X.cell? ⟨ad.block,ad.off+7+1+3,none⟩=some (.string tq):=by
         have h:=b6 4 (by omega);rw[b1]at h;have h2:(cq_ q sq)[4]?=some (.string tq):=by rw[<-ck.o];rfl
         have cc:=Nat.lt_of_lt_of_le (HF.o _ br) y.o.size;have h3:X.cell? (ad.add 11)=w2.cell? (ad.add 11):=(bd.o.cell (p:=ad.add 11) (by rw[a3_];exact Nat.lt_of_lt_of_le cc C.o.size) (by rw[a3_];intro e;have e:ad.block=z5:=e;have h4:w2.heap.size=V:=aa.o;have:=M.o;omega)).trans (C.o.cell (by rw[a3_];exact cc));exact h3.trans (h.trans h2)
        clear b6 b1 br;go_wp2_with ((with_reducible refine z_ 80 ?_);refine h5_ rfl 9 _ _ rfl z5 4 (#[.int .i64 10,.bool false,.int .i64 0,.string Y,.string ⟨#[]⟩,.slice none 0 0]) 39 (.string tq) rfl rfl (ql_ bc.o (by show 4<6;omega) _) bc.o ?_;intro wf cy cz)
        go_meet;exact q_ ⟨none,0,by rw[E.o];exact cy,by rw[E.o];exact a3.o _ _ _ _,bd.o.trans cz⟩
      ·have t3:(s.toList==[76,105,116])=false:=by have h:=bi_ ah;unfold Eo_ at h;simpa using h
       by_cases aq:s=Ep_
       ·subst aq;have E:=q_ (show o=p.v from by rw[<-Ho.o];unfold m8_;rw[if_neg (by decide),if_neg (by decide),if_neg (by decide),if_pos rfl]);clear t1 t2 t3 a5 a7 ah;unfold Ep_
        go_wp2_with (first
         | ((with_reducible refine e_ (some 83) ?_);refine A_ rfl 39 _ rfl V 0 rfl vp _ (p_ cj.o) Tryz.underlying39 rfl b0.o ?_)
         | ((with_reducible refine z_ 5 ?_);refine r_ rfl 39 _ _ rfl z5 (#[.int .i64 0,.bool false,.int .i64 0,.string ⟨#[]⟩,.string ⟨#[]⟩,.slice none 0 0]) vp 39 rfl rfl ac.o J.size b0.o cl.o ?_;intro X T G))
        go_meet;obtain⟨A,I,e,_⟩:=(ce.o wd C.o).inv;injection e with e;refine q_ ⟨A,I,by rw[E.o,<-e];exact T,?_,G⟩;rw[E.o,<-e];exact ce.o X (j_ C.o G (λb e=>by have e:b=z5:=e;have h2:w2.heap.size=V:=aa.o;have:=M.o.1;omega))
       ·have t4:(s.toList==[86,97,108])=false:=by have h:=bi_ aq;unfold Ep_ at h;simpa using h
        have E:=q_ (show o=hw_ from by rw[<-Ho.o];unfold m8_;rw[if_neg a5,if_neg a7,if_neg ah,if_neg aq]);clear a5 a7 ah aq;go_wp2_with fail;go_meet;exact q_ ⟨none,0,by rw[E.o];exact ac.o,by rw[E.o];exact a3.o _ _ _ _,Turn.refl _ _⟩
   case rest=>
    rename World=>R
    obtain⟨A,I,b9,b4,ab⟩:=hcut.o;have dq:=q_ ab;have ay:=q_ (show Below w.heap.size w R from j_ cv.o ab (λb e=>by have e:b=z5:=e;have:=M.o;omega));have c6:=q_ ((ab.block z (b_ ak.o) (λe=>by have e:z=z5:=e;have:=M.o;omega)).trans ak.o);have cn:=q_ ((ab.block (z+1) (b_ c4.o) (λe=>by have e:z+1=z5:=e;have:=M.o;omega)).trans c4.o);obtain⟨u,Hu⟩:=H_ o (.slice A o.list.length I);rw[Hu.o]at b9 b4;have bo:=q_ b9;have ds:=q_ b4;have IU:=q_ (am_.trans (congrArg some Hu.size.symm));have OU:=q_ (show u.all (·.oneCell')=true from by rw[<-Hu.o];kernel_rfl);obtain⟨ko,ap⟩:=a_ o.kind;have k0:R.cell? ⟨z5,0,none⟩=some (.int .i64 ko):=(cell_of_heap b9 0).trans (by rw[<-Hu.o,<-ap.o];rfl);have d0:=q_ (show T_ o<=10000000000000000 from by rw[<-Ho.o];exact Nat.le_trans (wf_ (bu.o.2.2.2 p (by simp)).2 (λq hq=>(bu.o.2.2.2 q (by simp[hq])).2)) (by decide));have bj:=q_ (do_ o d0.o F (.agg u) R (λb hb=>Nat.lt_of_lt_of_le (HF.o b hb) ay.o.size) b4 (f_ HG.o ay.o));unfold u_ at bj;have c9:=q_ (λj (hj:j<u.size)=>(show R.cell? ((⟨z5,0,none⟩:Addr).add j)=u[j]? from by rw[Addr.add_mid,Nat.zero_add,cell_of_row R z5 j u _ _ bo.o]));obtain⟨mv,b7⟩:=a_ (I_ o 0);rw[b7.o]at bj;obtain⟨ae,a6⟩:=a_ (decide (ko=0\/ko=5\/mv=false));clear hcut b9 b4 ab;go_upto_region 16 with fail;go_cut [96] (λdi wy=>di = .bool ae/\Q_ (Below R.heap.size R wy))
    case first=>
     by_cases Z:ko=0
     ·subst Z;have HB:=q_ (show ae=true from by rw[<-a6.o];simp);go_wp2_with fail;go_meet;exact⟨by rw[HB.o],q_ (Below.refl _ _)⟩
     ·by_cases ar:ko=5
      ·subst ar;have HB:=q_ (show ae=true from by rw[<-a6.o];simp);clear Z;go_wp2_with fail;go_meet;exact⟨by rw[HB.o],q_ (Below.refl _ _)⟩
      ·have t1:(ko==0)=false:=by simpa using Z
       have t2:(ko==5)=false:=by simpa using ar
       have HB:=q_ (show ae = !mv from by rw[<-a6.o];cases mv<;>simp[Z,ar])
       clear Z ar;go_wp2_with ((with_reducible refine e_ (some 93) ?_);refine M_ (by rfl) 39 _ rfl rfl u _ c9.o Tryz.underlying39 rfl IU.o ?_)
       refine bj.o.mono ?_;rintro e wy ⟨rfl,hb⟩;have HY:=q_ hb;clear hb;go_wp2_with fail;go_meet;exact⟨by rw[HB.o],HY⟩
    case rest=>
     rename World=>wy
     obtain⟨ch,a8⟩:=hcut;have dr:=q_ a8.o;have ca:=q_ (ay.o.trans (a8.o.mono ay.o.size));have d6:=q_ ((a8.o.block z (b_ c6.o)).trans c6.o);have co:=q_ ((a8.o.block (z+1) (b_ cn.o)).trans cn.o);have dg:=q_ ((a8.o.block z5 (b_ bo.o)).trans bo.o);clear a8 k0 c9
     cases ae with
     | true=>
      subst ch;have HT:=q_ (show bw_ ⟨c,[s],p::r⟩=(hw_,false) from by unfold bw_;rw[B.o,if_pos rfl,show ko_ ⟨c,[s],p::r⟩=o from Ho.o,ap.o,b7.o,if_pos (of_decide_eq_true a6.o)]);go_wp2_with ((with_reducible refine z_ 2 ?_);refine r_ rfl 39 _ _ rfl (z+1) (#[.int .i64 0,.bool false,.int .i64 0,.string ⟨#[]⟩,.string ⟨#[]⟩,.slice none 0 0]) (#[.int .i64 0,.bool false,.int .i64 0,.string ⟨#[]⟩,.string ⟨#[]⟩,.slice none 0 0]) 39 rfl rfl co.o rfl kp_ yg_ ?_;intro w3 bh bs)
      refine bodyPost_ret (v:=.tuple #[.agg #[.int .i64 0,.bool false,.int .i64 0,.string ⟨#[]⟩,.string ⟨#[]⟩,.slice none 0 0],.bool false]) (b1_ Tryz.results78 (g:=z+1) rfl bh _ Tryz.underlying39 rfl kp_ rfl) rfl ⟨none,0,by rw[HT.o];rfl,j_ ca.o bs (λb e=>by have e:b=z+1:=e;have:=M.o.2.2;omega)⟩
     | false=>
      subst ch;have az:=of_decide_eq_false a6.o;have df:=q_ (show mv=true from by cases mv with | true=>rfl | false=>exact absurd (.inr (.inr rfl)) az);have bm:=q_ (show o.list=[] from rq_ (by rw[b7.o];exact df.o) (by rw[ap.o];exact λe=>az (.inr (.inl e))));have HT:=q_ (show bw_ ⟨c,[s],p::r⟩=(o,e8_ (E_ c o) ⟨c,[s],p::r⟩) from by unfold bw_;rw[B.o,if_pos rfl,show ko_ ⟨c,[s],p::r⟩=o from Ho.o,ap.o,b7.o,if_neg az]);clear az;have bw:=q_ (show c_ o (.slice A 0 I)=u from by rw[<-Hu.o,bm.o];rfl);have bn:=λW:World=>rd_ c o bm.o A I W;rw[bw.o]at bn;have d3:=q_ bn;have bp:=HU.o;rw[f.o]at bp;have dk:=q_ (show NoR w F ⟨c,[s],p::r⟩ #[.int .i64 c,.slice (some O) 1 c1,.slice (some ad) n U] from bp);obtain⟨q,Hq⟩:=a_ (e8_ (E_ c o) ⟨c,[s],p::r⟩);rw[Hq.o]at HT;clear bn bp;go_upto_region 18 with fail;obtain⟨X,bt⟩:=a_ wy.drew;have ct:=q_ (show Below w.heap.size w X from by rw[<-bt.o];exact ca.o.drew);have cd:=q_ (show X.heap[z+1]?=some (.cells #[.int .i64 0,.bool false,.int .i64 0,.string ⟨#[]⟩,.string ⟨#[]⟩,.slice none 0 0] 39 (0,0)) from by rw[<-bt.o];exact co.o);refine wp_region_held_drew (S:=λW:World=>W.heap[z5]?=some (Obj.cells u 39 (0,0))/\W.heap[z]?=some (Obj.cells #[.int .i64 c,.slice (some O) 1 c1,.slice (some ad) n U] 72 (0,0))) (by kernel_rfl) ⟨dg.o,d6.o⟩ λd=>?_;refine V_.o ?_;rw[bt.o]at d ⊢;refine J_ 0 98 (.agg u) d (λw a0=>?_) λd=>?_
      ·exact k_ (ap_ a0.1 39 _ Tryz.underlying39 rfl IU.o)
      (try simp only[Act.put,aT,aZ,aS]);refine v_ 1 99 (.pointer (some ⟨z,0,none⟩)) d λd=>?_;(try simp only[Act.put,aT,aZ,aS]);refine J_ 2 100 (.int .i64 c) d (λw a0=>?_) λd=>?_
      ·have p:w.cell? ⟨z,0,none⟩=some (.int .i64 c):=cell_of_heap a0.2 0;unfold o_;go_simp
      (try simp only[Act.put,aT,aZ,aS]);refine J_ 3 101 (.agg u) d (λw a0=>?_) λd=>?_
      ·exact k_ (ap_ a0.1 39 _ Tryz.underlying39 rfl IU.o)
      (try simp only[Act.put,aT,aZ,aS]);refine J_ 5 103 (.agg (#[.int .i64 c,.slice (some O) 1 c1,.slice (some ad) n U])) d (λw a0=>?_) λd=>?_
      ·exact k_ (ap_ a0.2 72 _ Tryz.underlying72 rfl pe_)
      (try simp only[Act.put,aT,aZ,aS]);refine tkC 4 λK hK=>?_;change Oper.wp _ ⟨some 102,_,_,_,_,_⟩ _ _ _ _;go_simp;refine (d3.o _).mono ?_;unfold ka_;rintro e wf ⟨LL,PP,rfl,hl,hp,hb⟩;have cx:=q_ (show NoR wf (λb=>X.heap.size<=b/\b<wf.heap.size) (E_ c o) (#[.int .i64 c,LL,PP]) from ⟨_,_,by rw[bd_],hl,hp⟩);have dl:=q_ (show wf.heap[z5]?=some (Obj.cells u 39 (0,0))/\wf.heap[z]?=some (Obj.cells #[.int .i64 c,.slice (some O) 1 c1,.slice (some ad) n U] 72 (0,0)) from ⟨(hb.block z5 (b_ d.1)).trans d.1,(hb.block z (b_ d.2)).trans d.2⟩);have cs:=q_ ((hb.block (z+1) (b_ cd.o)).trans cd.o);have b3:=q_ (ct.o.trans (hb.mono ct.o.size));clear hl hp hb;dsimp only;refine hK.out _ _ dl.o λd=>?_;clear hK K;(try simp only[Act.put,aT,aZ,aS]);refine tkC 6 λK hK=>?_;change Oper.wp _ ⟨some 104,_,_,_,_,_⟩ _ _ _ _;go_simp;refine (rk_ (E_ c o) ⟨c,[s],p::r⟩ (λb=>X.heap.size<=b/\b<wf.heap.size) F _ _ wf (λb h=>h.2) (λb h=>Nat.lt_of_lt_of_le (HF.o b h) b3.o.size) cx.o (NoR.good.keep dk.o (λa ha=>b3.o.cell (HF.o _ ha))) (l2_ c o) (pq_ c bm.o)).mono ?_;unfold u_;rw[Hq.o];rintro e wg ⟨rfl,hb⟩;have d7:=q_ (show wg.heap[z5]?=some (Obj.cells u 39 (0,0))/\wg.heap[z]?=some (Obj.cells #[.int .i64 c,.slice (some O) 1 c1,.slice (some ad) n U] 72 (0,0)) from ⟨(hb.block z5 (b_ d.1)).trans d.1,(hb.block z (b_ d.2)).trans d.2⟩);have cw:=q_ ((hb.block (z+1) (b_ cs.o)).trans cs.o);have d9:=q_ (b3.o.trans (hb.mono b3.o.size));clear hb;dsimp only;refine hK.out _ _ d7.o λd=>?_;clear hK K;(try simp only[Act.put,aT,aZ,aS]);refine tkC 7 λK hK=>?_;change Oper.wp _ ⟨none,_,_,_,_,_⟩ _ _ _ _;refine j1_ 39 _ _ rfl (z+1) (#[.int .i64 0,.bool false,.int .i64 0,.string ⟨#[]⟩,.string ⟨#[]⟩,.slice none 0 0]) u 39 rfl rfl cw.o Hu.size IU.o OU.o λwh c0 aw=>?_;have d5:=q_ c0;have dc:=q_ (show Below w.heap.size w wh from j_ d9.o aw (λb e=>by have e:b=z+1:=e;have:=M.o.2.2;omega));have dn:=q_ (show wh.heap[z5]?=some (Obj.cells u 39 (0,0))/\wh.heap[z]?=some (Obj.cells #[.int .i64 c,.slice (some O) 1 c1,.slice (some ad) n U] 72 (0,0)) from ⟨(aw.block z5 (b_ d.1) (λe=>by have e:z5=z+1:=e;have:=M.o;omega)).trans d.1,(aw.block z (b_ d.2) (λe=>by have e:z=z+1:=e;omega)).trans d.2⟩);clear c0 aw;refine hK.out _ _ dn.o λd=>?_;clear hK K;(try simp only[Act.put,aT,aZ,aS]);refine v_ 8 3 (.bool q) d λd=>?_;(try simp only[Act.put,aT,aZ,aS]);refine⟨wpAnyH_done (by kernel_rfl) ?_ _⟩;clear d;go_wp2_with fail;refine bodyPost_ret (v:=.tuple #[.agg u,.bool q]) (b1_ Tryz.results78 (g:=z+1) rfl d5.o _ Tryz.underlying39 rfl IU.o rfl) rfl ⟨A,I,by rw[HT.o,bw.o],dc.o⟩
end
section
open Go Go.RowKit Go.Maps Go.WideMaps Go.WideElems Go.MapKept Go.ChangeMaps
theorem Gz_ {P:Program} {b:Array Oper} {rest:List Oper} {op:Oper} {a:Act} {w:World} {Q:Exit->Act->World->Prop} (d:op.guard=none) (ty:TypeId) (x y:Operand) (g:op.op = .lookup ty x y false) (e c:Value) (f:a.eval x=e) (k:a.eval y=c) (v:Value) (n:(Instr.lookup ty e c false).run P w = .ok v w) (h:wpList P b Q rest (a.put op.dst v) w):wpList P b Q (op::rest) a w:=
 wpList_plain d λ_ j=>by
  unfold Oper.wp execOp;simp only[g,f,k,Sem.run_bind,Sem.run_pure,n,Result.andThen_ok];exact j _ _ h
theorem Lf_ {P:Program} {b:Array Oper} {rest:List Oper} {op:Oper} {a:Act} {w:World} {Q:Exit->Act->World->Prop} (d:op.guard=none) (ty:TypeId) (x y z:Operand) (j:op.op = .mapUpdate ty x y z) (e c f:Value) (g:a.eval x=e) (n:a.eval y=c) (hz:a.eval z=f) (w':World) (o:(Instr.mapUpdate ty e c f).run P w = .ok () w') (h:wpList P b Q rest (a.put op.dst undef) w'):wpList P b Q (op::rest) a w:=
 wpList_plain d λ_ k=>by
  unfold Oper.wp execOp;simp only[j,g,n,hz,Sem.run_bind,Sem.run_pure,o,Result.andThen_ok];exact k _ _ h
theorem Jk_ (w:World):(Instr.makeMap 134 none).run Tryz.prog w = .ok (.map (some w.heap.size)) (w.alloc (.map #[] 0)):=by kernel_rfl
def StM (w:World) (m:Nat) (l:List (Int×Value)):Prop:=∃(a:Array MapEntry) (clock:Nat),w.heap[m]?=some (.map a clock)/\a.toList.map (λe=>(e.key,e.val))=l.map (λp=>(Value.int .i64 p.1,p.2))/\(∀p,p∈l->VI p.1)/\(l.map (·.1)).Nodup
def ml_ (l:List (Int×Value)) (i:Int):Value:=match l.find? (λp=>decide (p.1=i)) with | some p=>p.2 | none=>.agg #[.int .i64 0,.bool false,.int .i64 0,.string ⟨#[]⟩,.string ⟨#[]⟩,.slice none 0 0]
theorem StM.fresh {w:World} {m:Nat} (h:w.heap[m]?=some (.map #[] 0)):StM w m []:=⟨#[],0,h,rfl,(λ_ h=>by cases h),List.nodup_nil⟩
theorem StM.lt {w:World} {m:Nat} {l:List (Int×Value)} (h:StM w m l):m<w.heap.size:=by obtain⟨b,a,hb,_⟩:=h;exact b_ hb
theorem StM.turn {w w':World} {m:Nat} {l:List (Int×Value)} {S:Nat->Prop} (h:StM w m l) (ht:Turn S w w') (b:¬S m):StM w' m l:=by obtain⟨c,a,hb,h2⟩:=h;exact⟨c,a,(ht.block m (b_ hb) b).trans hb,h2⟩
theorem StM.on {w w':World} {m:Nat} {l:List (Int×Value)} (h:StM w m l) (hb:Below w.heap.size w w'):StM w' m l:=
 h.turn (Turn.of_below hb) (λe=>by have:=h.lt;omega)
section
variable {w:World} {m:Nat} {l:List (Int×Value)} {i:Int}
theorem zp_ {b:List MapEntry} (h:b.map (λe=>(e.key,e.val))=l.map (λp=>(Value.int .i64 p.1,p.2))) (f:∀p,p∈l->VI p.1):∀e,e∈b->∃q,keyOf Tryz.prog 2 e.key=some q:=λe c=>by
 have h1:(e.key,e.val)∈l.map (λp=>(Value.int .i64 p.1,p.2)):=by rw[<-h];exact List.mem_map.2 ⟨e,c,rfl⟩
 obtain⟨p,d,a⟩:=List.mem_map.1 h1;injection a with a _;exact⟨hu_ p.1,by rw[<-a];exact keyOf_int_mk Tryz.underlying2 (f p d)⟩
theorem Ck_ {b:List MapEntry} (h:b.map (λe=>(e.key,e.val))=l.map (λp=>(Value.int .i64 p.1,p.2))) (c:∀e,e∈b->e.key ≠ .int .i64 i):∀p,p∈l->p.1≠i:=λp g f=>by
 have h1:((Value.int .i64 p.1,p.2):Value×Value)∈b.map (λe=>(e.key,e.val)):=by rw[h];exact List.mem_map.2 ⟨p,g,rfl⟩
 obtain⟨e,d,a⟩:=List.mem_map.1 h1;injection a with a _;exact c e d (by rw[a,f])
theorem Cl_ {s:List MapEntry} {j:Nat} {e:MapEntry} (h:s.map (λe=>(e.key,e.val))=l.map (λp=>(Value.int .i64 p.1,p.2))) (y:s[j]?=some e) (v:e.key = .int .i64 i) (x:(l.map (·.1)).Nodup):ml_ l i=e.val:=by
 have h1:(l.map (λp=>((Value.int .i64 p.1,p.2):Value×Value)))[j]?=some (.int .i64 i,e.val):=by rw[<-h,List.getElem?_map,y];simp[v]
 rw[List.getElem?_map]at h1
 cases hl:l[j]? with
 | none=>rw[hl]at h1;cases h1
 | some p=>
  rw[hl]at h1;simp only[Option.map_some,Option.some.injEq,Prod.mk.injEq,Value.int.injEq,true_and]at h1;have n:=List.mem_of_getElem? hl;unfold ml_
  cases hf:l.find? (λp=>decide (p.1=i)) with
  | none=>
   have:=List.find?_eq_none.1 hf p n;simp[h1.1]at this
  | some q=>
   have b:=List.find?_some hf;have r:=List.mem_of_find?_eq_some hf;have b:q.1=i:=by simpa using b
   obtain⟨k,f,g⟩:=List.mem_iff_getElem.1 r;obtain⟨d,o⟩:=List.getElem?_eq_some_iff.1 hl
   have u:k=j:=by
    have t:=List.pairwise_iff_getElem.1 x;have c:∀(a:Nat) (h:a<(l.map (·.1)).length),(l.map (·.1))[a]=(l[a]'(by simpa using h)).1:=λa h=>List.getElem_map ..;rcases Nat.lt_trichotomy k j with h | h | h
    ·exact absurd (by rw[c,c,g,o,b,h1.1]) (t k j (by simpa using f) (by simpa using d) h)
    ·exact h
    ·exact absurd (by rw[c,c,g,o,b,h1.1]) (t j k (by simpa using d) (by simpa using f) h)
   subst u;have:q=p:=by rw[<-g,<-o]
   rw[this];exact h1.2
theorem G0_ (w:World):(zeroValue 39).run Tryz.prog w = .ok (.agg #[.int .i64 0,.bool false,.int .i64 0,.string ⟨#[]⟩,.string ⟨#[]⟩,.slice none 0 0]) w:=by kernel_rfl
theorem rs_ (h:StM w m l) (hi:VI i):(Instr.lookup 134 (.map (some m)) (.int .i64 i) false).run Tryz.prog w = .ok (ml_ l i) w:=by
 obtain⟨g,c,hb,b,n,f⟩:=h;have a:=keyOf_int_mk Tryz.underlying2 hi;rcases td_.find w a g.toList (zp_ b n) with⟨h1,h2⟩ | ⟨j,e0,h1,h2,e⟩
 ·have d:=Ck_ b h2;have hz:ml_ l i = .agg #[.int .i64 0,.bool false,.int .i64 0,.string ⟨#[]⟩,.string ⟨#[]⟩,.slice none 0 0]:=by unfold ml_;rw[List.find?_eq_none.2 (λp k=>by simpa using d p k)]
  rw[hz];simp[Instr.lookup,run_underlying Tryz.underlying134,MapKept.run_getObj_map hb,td_.check w _ a,h1,G0_ w,Result.andThen]
 ·rw[Cl_ b h2 e f];simp[Instr.lookup,run_underlying Tryz.underlying134,MapKept.run_getObj_map hb,td_.check w _ a,h1,Result.andThen]
theorem Cm_ (h:StM w m l) (hi:VI i) (q:i∉l.map (·.1)) (v:Value):∃w',(Instr.mapUpdate 134 (.map (some m)) (.int .i64 i) v).run Tryz.prog w = .ok () w'/\StM w' m (l++[(i,v)])/\Turn (λb=>b=m) w w':=by
 obtain⟨o,d,hb,n,t,x⟩:=h;have k:=keyOf_int_mk Tryz.underlying2 hi;rcases td_.find w k o.toList (zp_ n t) with⟨h1,h2⟩ | ⟨j,e0,h1,h2,u⟩
 ·refine⟨setBlock w m (.map (o.push ⟨.int .i64 i,v,d⟩) (d+1)),?_,⟨o.push ⟨.int .i64 i,v,d⟩,d+1,?_,?_,?_,?_⟩,?_⟩
  ·simp[Instr.mapUpdate,run_underlying Tryz.underlying134,MapKept.run_getObj_map hb,td_.check w false k,h1,MapKept.run_setObj_map _ hb,Result.andThen,setBlock]
  ·unfold setBlock;simp[b_ hb]
  ·rw[Array.toList_push,List.map_append,List.map_append,n];rfl
  ·intro p g;rcases List.mem_append.1 g with g | g
   ·exact t p g
   ·rw[List.mem_singleton.1 g];exact hi
  ·rw[List.map_append];refine List.nodup_append.2 ⟨x,by simp,λa z c r f=>?_⟩;simp only[List.map_cons,List.map_nil,List.mem_singleton]at r;exact q (by rw[<-r,<-f];exact z)
  ·refine⟨rfl,rfl,rfl,by unfold setBlock;simp,λb A s=>?_⟩;unfold setBlock;exact Array.getElem?_setIfInBounds_ne λe=>s e.symm
 ·exfalso;have y:((Value.int .i64 i,e0.val):Value×Value)∈l.map (λp=>(Value.int .i64 p.1,p.2)):=by rw[<-n];exact List.mem_map.2 ⟨e0,List.mem_of_getElem? h2,by rw[u]⟩
  obtain⟨p,g,f⟩:=List.mem_map.1 y;injection f with f _;injection f with _ f;exact q (List.mem_map.2 ⟨p,g,f⟩)
end
end
end Go.Proofs.YtefhfadjajcmkaaGreatDoor
