/- A map of whole numbers to values, each number put in once: what a look-up tells, what a store makes. -/
import Derived.Test.YtefhfadjajcmkaaGreatDoorHK
set_option linter.unusedVariables false
set_option linter.unusedSimpArgs false
namespace Go.Proofs.YtefhfadjajcmkaaGreatDoor
open Go.Lib (cell_of_heap)
section
open Go Go.RowKit Go.Maps
theorem go_ {a : Type} {E sz:Nat} {R R':bi_ a} {w:World} {F:Nat->Prop} {l:List a} {s:Value} (h:x_ E sz R w F l s) (hi:∀{w:World} {F:Nat->Prop} {x:a} {c:Array Value},R w F x c->R' w F x c):x_ E sz R' w F l s:=by obtain⟨cs,h1,e,f,b⟩:=h;exact⟨cs,h1,e,f,λi x d=>hi (b i x d)⟩
theorem hv_ {v:h_} (h:Y_ v):v.text.size<=1048576/\v.extra.size<=1048576:=by
 have a:=h.1
 have key:∀(k:Int) (b:Bool) (n:Int) (t x:ByteArray),v = .mk k b n t x []->t.size<=1048576->x.size<=1048576->v.text.size<=1048576/\v.extra.size<=1048576:=λk b n t x e h1 d=>by
  rw[e];exact⟨h1,d⟩
 have h0:(⟨#[]⟩:ByteArray).size<=1048576:=by decide
 rcases bp_ h with⟨_,e⟩ | ⟨_,e⟩ | ⟨_,_,e⟩ | ⟨c,e⟩
 ·exact key _ _ _ _ _ e h0 h0
 ·exact key _ _ _ _ _ e h0 h0
 ·rw[e]at a;exact key _ _ _ _ _ e (ss_ a).2.2.2.2 h0
 ·generalize v.kind=k at c e;rw[e]at a;rcases c with rfl | rfl | rfl | rfl
  ·have:=st_ a;exact key _ _ _ _ _ e this.2.2.2.2 (by rw[this.2.2.1];exact h0)
  ·have:=lz_ a;exact key _ _ _ _ _ e this.2.2.2.2 (by rw[this.2.2.1];exact h0)
  ·have:=or_ a;exact key _ _ _ _ _ e this.2.2.2.2 (by rw[this.2.2.1];exact h0)
  ·have:=nn_ a;exact key _ _ _ _ _ e this.2.2.2.1 this.2.2.2.2
theorem tq_ {n:Nat} (h:n<=1000000000):VI (n:Int):=by
 unfold VI Lit.wf;have h1:IntKind.i64.min = -9223372036854775808:=by rfl
 have a:IntKind.i64.max=9223372036854775807:=by rfl
 simp;rw[h1];omega
theorem hb_ {K:Type} [DecidableEq K] {D:List K} {v:K} (h:v∈D):place D v<D.length:=by
 induction D with
 | nil=>cases h
 | cons a r c=>
  rw[j4_];split
  ·simp
  ·rename_i b;rcases List.mem_cons.1 h with e | e
   ·exact absurd e.symm b
   ·have:=c e;simp;omega
theorem rp_ {D:List h_} {v:h_} (h:v∈D) (a:D.length<=150000):VI (a6_ D v):=by
 unfold a6_;classical
 exact tq_ (by have:=hb_ h;omega)
theorem pp_ {k:ByteArray} {s:ByteArray} (a:k.size<=2000000) (b:s.size<=1048576):vs_ ⟨k,txV s⟩:=⟨a,by show U_ (h_.mk 4 false 0 s ⟨#[]⟩ [])<=2000000;have h0:(⟨#[]⟩:ByteArray).size=0:=rfl;simp only[U_,af_,h0];omega⟩
theorem Gf_ (f:Int) {v:h_} (h:Y_ v):tn_ (E_ f v):=by
 obtain⟨d,c⟩:=hv_ h;have hz:=ma_ h
 have a:∀{P:ByteArray->Prop} {s:ByteArray},P s->∀x,x∈[s]->P x:=λb x c=>by
  rw[List.mem_singleton.1 c];exact b
 unfold E_;split
 ·refine⟨by simp,by simp,a (by decide),λp b=>?_⟩;rw[List.mem_singleton.1 b];exact pp_ (by decide) d
 ·split
  ·refine⟨by simp,by simp,a (by decide),λp b=>?_⟩;rw[List.mem_singleton.1 b];exact pp_ (by decide) d
  ·split
   ·refine⟨by simp,by simp,a (by decide),λp b=>?_⟩;rcases List.mem_cons.1 b with e | e
    ·rw[e];exact pp_ (by decide) d
    ·rw[List.mem_singleton.1 e];exact pp_ (by decide) c
   ·refine⟨by simp,by simp,a (by decide),λp b=>?_⟩;rw[List.mem_singleton.1 b];exact⟨(by decide:sV.size<=2000000),by show U_ v<=2000000;omega⟩
theorem Iy_ {T:List d_} (d:(J_ T).length<=150000) (j:T.length<=65536) (g:∀v,v∈J_ T->Y_ v) (c:∀t,t∈T->t.s∈J_ T/\t.o∈J_ T) (b:∀t,t∈T->Y_ t.p):f4_ (aj_ T):=by
 refine⟨?_,?_,λn h=>?_,λe f=>?_⟩
 ·show ((J_ T).mapIdx _).length<=_;rw[List.length_mapIdx];omega
 ·show (T.mapIdx _).length<=_;rw[List.length_mapIdx];omega
 ·obtain⟨i,hi,e⟩:=List.mem_mapIdx.1 h;rw[<-e];refine⟨Gf_ _ (g _ (List.getElem_mem hi)),?_⟩;rw[cc_];exact tq_ (by omega)
 ·obtain⟨i,hi,e⟩:=List.mem_mapIdx.1 f;rw[<-e];have a:=List.getElem_mem hi;exact⟨⟨Nat.le_trans (hv_ (b _ a)).1 (by decide),by simp,λp b=>by simp at b⟩,tq_ (by omega),rp_ (c _ a).1 d,rp_ (c _ a).2 d⟩
def iz_:h_:=.mk 0 false 0 ⟨#[]⟩ ⟨#[]⟩ []
def mw_ (o:Option C_) (k:ByteArray):Bool:=match o with | some p=>decide (p.key=k) | none=>false
def ke_ (n:i_):Bool:=decide (n.labels.length=1)&&(decide (1<=n.props.length)&&(decide (n.props.length<=2)&&(mw_ n.props[0]? sV&&(decide (n.props.length≠2) || mw_ n.props[1]? sX))))
def nl_ (s:ByteArray) (p:h_) (r:List C_):h_:=
 if s=ne_ then .mk 8 false 0 p.text ⟨#[]⟩ [] else if s=o0_ then .mk 9 false 0 p.text ⟨#[]⟩ [] else if s=Ef_ then .mk 10 false 0 p.text (match r with | [q]=>q.v.text | _=>⟨#[]⟩) [] else if s=Eg_ then p else iz_
def lh_ (n:i_):h_:=match n.labels,n.props with | [s],p::r=>nl_ s p.v r | _,_=>iz_
noncomputable def b7_ (n:i_):h_×Bool:=if ke_ n=true then (if (lh_ n).kind=0\/(lh_ n).kind=5\/K_ (lh_ n) 0=false then (iz_,false) else (lh_ n,f1_ (E_ n.id (lh_ n)) n)) else (iz_,false)
theorem rq_ {v:h_} {d:Nat} (h:K_ v d=true) (a:v.kind≠5):v.list=[]:=by
 cases v with
 | mk k b n t x l=>
  change k≠5 at a;unfold K_ at h;show l=[];rw[if_neg a]at h;repeat' split at h
  all_goals first
   | exact (ef_ h a).2.2.2.2
   | (rw[Bool.and_eq_true]at h;exact (ef_ h.2 a).2.2.2.2)
   | (rw[Bool.and_eq_true,Bool.and_eq_true]at h;exact (ef_ h.2.2 a).2.2.2.2)
   | cases h
theorem hc_ {d:Int} {L:List ByteArray} {P:List C_} {b a:Nat} (e:L.length=b) (c:P.length=a):ke_ ⟨d,L,P⟩=(decide (b=1)&&(decide (1<=a)&&(decide (a<=2)&&(mw_ P[0]? sV&&(decide (a≠2) || mw_ P[1]? sX))))):=by subst e c;rfl
theorem yd_:(#[.int .i64 0,.bool false,.int .i64 0,.string ⟨#[]⟩,.string ⟨#[]⟩,.slice none 0 0]:Array Value).all (·.oneCell')=true:=by kernel_rfl
theorem li_:(Tryz.prog.info? 39).map (·.size)=some (#[.int .i64 0,.bool false,.int .i64 0,.string ⟨#[]⟩,.string ⟨#[]⟩,.slice none 0 0]:Array Value).size:=by kernel_rfl
theorem ye_ (k:Int) (t:ByteArray):(#[.int .i64 k,.bool false,.int .i64 0,.string t,.string ⟨#[]⟩,.slice none 0 0]:Array Value).all (·.oneCell')=true:=by kernel_rfl
theorem tr_ (k:Int) (t:ByteArray):(Tryz.prog.info? 39).map (·.size)=some (#[.int .i64 k,.bool false,.int .i64 0,.string t,.string ⟨#[]⟩,.slice none 0 0]:Array Value).size:=by kernel_rfl
theorem wb_ {s:ByteArray} {p:h_} {r:List C_} (c:U_ p<=2000000) (d:∀q,q∈r->U_ q.v<=2000000):U_ (nl_ s p r)<=5000000:=by
 have a:∀v:h_,U_ v<=2000000->v.text.size / 64<=2000000:=λv h=>by
  cases v with
  | mk k b n t x l=>
   simp only[U_]at h;show t.size / 64<=2000000;omega
 have h1:∀(k:Int) (t x:ByteArray),t.size / 64<=2000000->x.size / 64<=2000000->U_ (.mk k false 0 t x [])<=5000000:=λk t x h1 e=>by
  simp only[U_,af_];omega
 have h0:(⟨#[]⟩:ByteArray).size / 64<=2000000:=by decide
 unfold nl_;split
 ·exact h1 _ _ _ (a _ c) h0
 ·split
  ·exact h1 _ _ _ (a _ c) h0
  ·split
   ·refine h1 _ _ _ (a _ c) ?_;split
    ·exact a _ (d _ (by simp))
    ·exact h0
   ·split
    ·omega
    ·decide
theorem mj_ (a:Int) (v:h_):(E_ a v).labels.length<=1000000000/\(E_ a v).props.length<=1000000000:=by
 unfold E_
 (repeat' split)<;>exact⟨by simp,by simp⟩
theorem pq_ (b:Int) {v:h_} (h:v.list=[]):∀p,p∈(E_ b v).props->p.v.list=[]:=by
 unfold E_
 (repeat' split)<;>intro p a<;>simp at a
 ·rw[a];rfl
 ·rw[a];rfl
 ·rcases a with rfl | rfl<;>rfl
 ·rw[a];exact h
theorem nu_ (k:Int) (s:ByteArray) (w:World):(Instr.build 39 #[(0,.int .i64 k),(3,.string s)]).run Tryz.prog w = .ok (.agg #[.int .i64 k,.bool false,.int .i64 0,.string s,.string ⟨#[]⟩,.slice none 0 0]) w:=by kernel_rfl
theorem jq_ {w:World} {g j:Nat} {c:Array Value} {T:TypeId} (a:w.heap[g]?=some (.cells c T (0,0))) (b:j<c.size) (s:ByteArray):(Instr.storeAt 9 (.pointer (some ⟨g,j,none⟩)) (.string s)).run Tryz.prog w = .ok () (w.setCell ⟨g,j,none⟩ (.string s)):=by have h1:=cell_of_heap a j;have d:=Lib.frozen_of_heap a j;have e:w.cell? ⟨g,j,none⟩=some c[j]:=h1.trans (Array.getElem?_eq_getElem b);go_simp
def ts_ (n:i_) (w:World) (e:Ending) (w':World):Prop:=∃A a,e = .returned (.tuple #[.agg (c_ (b7_ n).1 (.slice A 0 a)),.bool (b7_ n).2])/\Below w.heap.size w w'
set_option maxRecDepth 100000 in
set_option maxHeartbeats 16000000 in
theorem Cb_ (c:Int) (L:List ByteArray) (P:List C_) (F:Nat->Prop) (u:Array Value) (w:World) (hF:∀b,F b->b<w.heap.size) (hu:NoR w F ⟨c,L,P⟩ u) (hg:M_ w) (hn:tn_ ⟨c,L,P⟩) :
    Calls Tryz.prog 78 #[.agg u] w (ts_ ⟨c,L,P⟩ w):=by
 have HU:=q_ hu;have HF:=q_ hF;have HG:=q_ hg;have bd:=q_ hn;obtain⟨_,_,e0,⟨A1,c1,e1,_,bt⟩,⟨A2,U,e2,_,bp⟩⟩:=hu;subst e1 e2 e0;change SRd 1 TxR w F L A1 L.length at bt;change SRd 7 PaR w F P A2 P.length at bp;obtain⟨n1,y⟩:=a_ L.length;obtain⟨n,f⟩:=a_ P.length;have HL:=q_ (show ∀W:World,Below w.heap.size w W->SRd 1 TxR W F L A1 n1 from λW hb=>by rw[<-y.o];exact bt.under TxR.good hb hF);have HP:=q_ (show ∀W:World,Below w.heap.size w W->SRd 7 PaR W F P A2 n from λW hb=>by rw[<-f.o];exact bp.under PaR.good hb hF);change Calls Tryz.prog 78 #[.agg #[.int .i64 c,.slice A1 L.length c1,.slice A2 P.length U]] w (ts_ ⟨c,L,P⟩ w);rw[y.o,f.o];clear bt bp hF hg hn;obtain⟨z,Hz⟩:=a_ w.heap.size;obtain⟨w2,ag⟩:=a_ ((w.alloc (.cells #[.int .i64 c,.slice A1 n1 c1,.slice A2 n U] 72)).alloc (.cells #[.int .i64 0,.bool false,.int .i64 0,.string ⟨#[]⟩,.string ⟨#[]⟩,.slice none 0 0] 39));have D:=q_ (show Below w.heap.size w w2 from by rw[<-ag.o];exact D_ w _ _);have ae:=q_ (show w2.heap[z]?=some (.cells #[.int .i64 c,.slice A1 n1 c1,.slice A2 n U] 72 (0,0)) from by rw[<-ag.o,<-Hz.o];exact heap_alloc2_old w _ _);have b0:=q_ (show w2.heap[z+1]?=some (.cells #[.int .i64 0,.bool false,.int .i64 0,.string ⟨#[]⟩,.string ⟨#[]⟩,.slice none 0 0] 39 (0,0)) from by rw[<-ag.o,<-Hz.o];exact heap_alloc2_new w _ _);obtain⟨sh,E⟩:=a_ (ke_ ⟨c,L,P⟩);have x1:w2.cell? ⟨z,1,none⟩=some (.slice A1 n1 c1):=cell_of_heap ae.o 1;have x2:w2.cell? ⟨z,2,none⟩=some (.slice A2 n U):=cell_of_heap ae.o 2;go_enter Tryz.func78,Tryz.ntmps78
 go_upto_region 1 with fail;rw[ag.o,Hz.o];clear ag;go_cut [43] (λdh R=>dh = .bool (!sh)/\R=w2)
 case first=>
  by_cases h1:n1=1
  ·subst h1;by_cases h2:n<1
   ·have a1:(n:Int)<1:=by omega
    have N:=q_ (show sh=false from by rw[<-E.o];unfold ke_;simp[y.o,f.o];omega);go_wp2_with fail;go_meet;exact⟨by rw[N.o];rfl,rfl⟩
   ·have a1:¬(n:Int)<1:=by omega
    by_cases h3:2<n
    ·have a2:(2:Int)<n:=by omega
     have N:=q_ (show sh=false from by rw[<-E.o];unfold ke_;simp[y.o,f.o];omega);go_wp2_with fail;go_meet;exact⟨by rw[N.o];rfl,rfl⟩
    ·have a2:¬(2:Int)<n:=by omega
     obtain⟨p,hp⟩:∃p,P[0]?=some p:=⟨_,List.getElem?_eq_getElem (by rw[f.o];omega)⟩;obtain⟨ad,cp,rfl,dc,_,b2,bk⟩:=(HP.o w2 D.o).at_ hp;obtain⟨Ap,qp,dg⟩:=iw_ bk;have k0:w2.cell? (ad.add 0)=some (.string p.key):=by have:=b2 0 (by omega);rw[dg]at this;exact this
     rw[show ad.add 0=ad from by first | exact Addr.add_zero ad | (cases ad;rfl)]at k0;obtain⟨kp,aj⟩:=a_ p.key;rw[aj.o]at k0;by_cases hk:kp=sV
     ·subst hk;unfold sV at k0;by_cases h4:n=2
      ·subst h4;obtain⟨q,hq⟩:∃q,P[1]?=some q:=⟨_,List.getElem?_eq_getElem (by rw[f.o];omega)⟩;obtain⟨dd,cq,e5,bf,_,au,d9⟩:=(HP.o w2 D.o).at_ hq;injection e5 with e5;subst e5;obtain⟨Aq,qq,b7⟩:=iw_ d9;have k1:w2.cell? (ad.add 7)=some (.string q.key):=by have:=au 0 (by omega);rw[b7]at this;exact this
       obtain⟨kq,bi⟩:=a_ q.key;rw[bi.o]at k1;have k2:w2.cell? ⟨ad.block,ad.off+7,none⟩=some (.string kq):=k1;by_cases bj:kq=sX
       ·subst bj;unfold sX at k2;have N:=q_ (show sh=true from by rw[<-E.o,hc_ y.o f.o,hp,hq];unfold mw_;simp[aj.o,bi.o]);go_wp2_with fail;go_meet;exact⟨by rw[N.o];rfl,rfl⟩
       ·have t3:(kq.toList==[120])=false:=by have h:=by_ bj;unfold sX at h;simpa using h
        have N:=q_ (show sh=false from by rw[<-E.o,hc_ y.o f.o,hp,hq];unfold mw_;simp[aj.o,bi.o,bj]);go_wp2_with fail;go_meet;exact⟨by rw[N.o];rfl,rfl⟩
      ·have a4:¬((n:Int)=2):=by omega
       have N:=q_ (show sh=true from by rw[<-E.o,hc_ y.o f.o,hp];unfold mw_;simp[aj.o,h4];omega);go_wp2_with fail;go_meet;exact⟨by rw[N.o];rfl,rfl⟩
     ·have t2:(kp.toList==[118])=false:=by have h:=by_ hk;unfold sV at h;simpa using h
      have N:=q_ (show sh=false from by rw[<-E.o,hc_ y.o f.o,hp];unfold mw_;simp[aj.o,hk]);go_wp2_with fail;go_meet;exact⟨by rw[N.o];rfl,rfl⟩
  ·have t1:((n1:Int)==1)=false:=by simp;omega
   have N:=q_ (show sh=false from by rw[<-E.o];unfold ke_;simp[y.o,h1]);go_wp2_with fail;go_meet;exact⟨by rw[N.o];rfl,rfl⟩
 case rest=>
  obtain⟨aa,ew⟩:=hcut;rw[ew];clear ew x1 x2
  cases sh with
  | false=>
   have aa:=aa.trans (show Value.bool (!false) = .bool true from rfl);subst aa;go_wp2_with ((with_reducible refine y_ 2 ?_);refine m_ rfl 39 _ _ rfl (z+1) (#[.int .i64 0,.bool false,.int .i64 0,.string ⟨#[]⟩,.string ⟨#[]⟩,.slice none 0 0]) (#[.int .i64 0,.bool false,.int .i64 0,.string ⟨#[]⟩,.string ⟨#[]⟩,.slice none 0 0]) 39 rfl rfl b0.o rfl li_ yd_ ?_;intro w3 bo bh)
   have HT:=q_ (show b7_ ⟨c,L,P⟩=(iz_,false) from by unfold b7_;rw[E.o];rfl);refine bodyPost_ret (v:=.tuple #[.agg #[.int .i64 0,.bool false,.int .i64 0,.string ⟨#[]⟩,.string ⟨#[]⟩,.slice none 0 0],.bool false]) (dr_ Tryz.results78 (g:=z+1) rfl bo _ Tryz.underlying39 rfl li_ rfl) rfl ⟨none,0,by rw[HT.o];rfl,j_ D.o bh (λb e=>by have e:b=z+1:=e;have h2:w.heap.size=z:=Hz.o;omega)⟩
  | true=>
   have aa:=aa.trans (show Value.bool (!true) = .bool false from rfl);subst aa;have bg:=E.o;rw[hc_ y.o f.o]at bg;simp only[Bool.and_eq_true,decide_eq_true_eq]at bg;obtain⟨c5,cu,d3,a3,dj⟩:=bg;obtain⟨s,hs⟩:∃s,L=[s]:=List.length_eq_one_iff.1 (y.o.trans c5)
   obtain⟨p,r,bk⟩:∃p r,P=p::r:=by
    cases P with
    | nil=>have:=f.o;simp at this;omega
    | cons p r=>exact⟨p,r,rfl⟩
   have cx:=q_ (And.intro cu d3);subst c5 hs bk;obtain⟨ad,cp,rfl,dc,_,b2,cz⟩:=(HP.o w2 D.o).at_ (i:=0) (x:=p) rfl;obtain⟨sl,rfl,bc⟩:=cz;obtain⟨vp,M⟩:=F_ p.v sl;have b4:=q_ (dq_.trans (congrArg some M.size.symm));have ch:=q_ (show vp.all (·.oneCell')=true from by obtain⟨A,G,e,_⟩:=bc.inv;rw[M.o]at e;injection e with e;rw[e];kernel_rfl);have cf:=q_ (λj (hj:j<vp.size)=>(show w2.cell? ((⟨ad.block,ad.off+1,none⟩:Addr).add j)=vp[j]? from by have h:=b2 (1+j) (by rw[M.size]at hj;omega);rw[iv_ p sl j (by rwa [M.size]at hj),M.o]at h;rw[<-h,Nat.zero_mul,Nat.zero_add];exact congrArg w2.cell? (by rw[show (⟨ad.block,ad.off+1,none⟩:Addr)=ad.add 1 from rfl,add_of_add])));obtain⟨O,ls,rfl,d2,_,cc,b5⟩:=(HL.o w2 D.o).at_ (i:=0) (x:=s) rfl;have b5:ls=#[.string s]:=b5;have az:=cc 0 (by omega);rw[b5]at az
   have LL:=q_ (λ(W:World) (hb:Below w2.heap.size w2 W)=>(show W.cell? O=some (.string s) from by
    have e:O.add 0=O:=by first | exact Addr.add_zero O | (cases O;rfl)
    rw[Nat.zero_mul,Nat.zero_add,e]at az;rw[hb.cell (p:=O) (Nat.lt_of_lt_of_le (HF.o _ d2) D.o.size)];exact az))
   have x2:w2.cell? ⟨z,2,none⟩=some (.slice (some ad) n U):=cell_of_heap ae.o 2;have a1:(0:Int)<n:=by omega
   clear b2 cc b5 az a3 dj;obtain⟨V,a7⟩:=a_ w2.heap.size;obtain⟨wa,b1⟩:=a_ (w2.alloc (.cells #[.int .i64 0,.bool false,.int .i64 0,.string ⟨#[]⟩,.string ⟨#[]⟩,.slice none 0 0] 39));have da:=q_ (show Below w2.heap.size w2 wa from by rw[<-b1.o];exact (Below.refl _ _).alloc (Nat.le_refl _) _);have cn:=q_ (show wa.heap[V]?=some (.cells #[.int .i64 0,.bool false,.int .i64 0,.string ⟨#[]⟩,.string ⟨#[]⟩,.slice none 0 0] 39 (0,0)) from by rw[<-b1.o,<-a7.o];exact heap_alloc_new w2 _)
   go_upto_region 4 with (first
    | ((with_reducible refine e_ (some 49) ?_);refine ag_ (by rfl) 39 _ rfl rfl vp _ cf.o Tryz.underlying39 rfl b4.o ?_)
    | ((with_reducible refine y_ 4 ?_);rw[b1.o,a7.o];refine m_ rfl 39 _ _ rfl V (#[.int .i64 0,.bool false,.int .i64 0,.string ⟨#[]⟩,.string ⟨#[]⟩,.slice none 0 0]) vp 39 rfl rfl cn.o M.size b4.o ch.o ?_;intro wb cg cd))
   have bl:=q_ cg;have c9:=q_ (show Below w2.heap.size w2 wb from j_ da.o cd (λb e=>by have e:b=V:=e;have h2:w2.heap.size=V:=a7.o;omega));clear cg cd b1 cn cf x2;obtain⟨z5,b8⟩:=a_ wb.heap.size;obtain⟨c0,aw⟩:=a_ (wb.alloc (.cells #[.int .i64 0,.bool false,.int .i64 0,.string ⟨#[]⟩,.string ⟨#[]⟩,.slice none 0 0] 39));have di:=q_ (show Below wb.heap.size wb c0 from by rw[<-aw.o];exact (Below.refl _ _).alloc (Nat.le_refl _) _);have c8:=q_ (show c0.heap[z5]?=some (.cells #[.int .i64 0,.bool false,.int .i64 0,.string ⟨#[]⟩,.string ⟨#[]⟩,.slice none 0 0] 39 (0,0)) from by rw[<-aw.o,<-b8.o];exact heap_alloc_new wb _);go_upto_region 5 with ((with_reducible refine y_ 5 ?_);rw[aw.o,b8.o];refine m_ rfl 39 _ _ rfl z5 (#[.int .i64 0,.bool false,.int .i64 0,.string ⟨#[]⟩,.string ⟨#[]⟩,.slice none 0 0]) (#[.int .i64 0,.bool false,.int .i64 0,.string ⟨#[]⟩,.string ⟨#[]⟩,.slice none 0 0]) 39 rfl rfl c8.o rfl li_ yd_ ?_;intro wd cl ct)
   have ak:=q_ cl;have bx:=q_ (show Below wb.heap.size wb wd from j_ di.o ct (λb e=>by have e:b=z5:=e;have h2:wb.heap.size=z5:=b8.o;omega));have cm:=q_ ((bx.o.block V (b_ bl.o)).trans bl.o);have B:=q_ (show Below w2.heap.size w2 wd from c9.o.trans (bx.o.mono c9.o.size));have af:=q_ ((B.o.block z (b_ ae.o)).trans ae.o);have bw:=q_ ((B.o.block (z+1) (b_ b0.o)).trans b0.o);have cy:=q_ (show Below w.heap.size w wd from D.o.trans (B.o.mono D.o.size));have J:=q_ (show V<z5/\z+1<V/\w.heap.size=z from ⟨by have:=b_ bl.o;have h2:wb.heap.size=z5:=b8.o;omega,by have:=b_ b0.o;have h2:w2.heap.size=V:=a7.o;omega,Hz.o⟩);clear cl ct aw c8;have x1:wd.cell? ⟨z,1,none⟩=some (.slice (some O) 1 c1):=cell_of_heap af.o 1;have l0:=LL.o wd B.o;go_upto_block 0 with fail;obtain⟨o,Ho⟩:=a_ (nl_ s p.v r);obtain⟨X,ac⟩:=a_ p.v.text;have p3:wd.cell? ⟨V,3,none⟩=some (.string X):=(cell_of_heap cm.o 3).trans (by rw[<-M.o,<-ac.o];rfl)
   have c3:=q_ (show ∀W:World,Below w2.heap.size w2 W->VRd W F p.v (.agg vp) from λW hb=>by
    have h:=bc.under hb (λb hb=>Nat.lt_of_lt_of_le (HF.o b hb) D.o.size);rwa [M.o]at h)
   clear bc l0;go_cut [55] (λ_ R=>Q_ (∃(A:Option Addr) (G:Nat),R.heap[z5]?=some (.cells (c_ o (.slice A o.list.length G)) 39 (0,0))/\VRd R F o (.agg (c_ o (.slice A o.list.length G)))/\Turn (λb=>b=z5) wd R))
   case first=>
    have a6:=q_ (show ∀(k:Int) (t:ByteArray) (e:ByteArray) (W:World),VRd W F (.mk k false 0 t e []) (.agg (c_ (.mk k false 0 t e []) (.slice none 0 0))) from λk t e W=>bo_ W F rfl none 0);by_cases a5:s=ne_
    ·subst a5;have C:=q_ (show o = .mk 8 false 0 X ⟨#[]⟩ [] from by rw[<-Ho.o,<-ac.o];unfold nl_;rw[if_pos rfl]);unfold ne_
     go_wp2_with (first
      | ((with_reducible refine e_ (some 59) ?_);refine N_ rfl 39 _ rfl #[(0,.int .i64 8),(3,.string X)] (by kernel_rfl) _ (nu_ _ _ _) ?_)
      | ((with_reducible refine y_ 5 ?_);refine m_ rfl 39 _ _ rfl z5 (#[.int .i64 0,.bool false,.int .i64 0,.string ⟨#[]⟩,.string ⟨#[]⟩,.slice none 0 0]) (#[.int .i64 8,.bool false,.int .i64 0,.string X,.string ⟨#[]⟩,.slice none 0 0]) 39 rfl rfl ak.o rfl (tr_ _ _) (ye_ _ _) ?_;intro Y T I))
     go_meet;exact q_ ⟨none,0,by rw[C.o];exact T,by rw[C.o];exact a6.o _ _ _ _,I⟩
    ·have t1:(s.toList==[73,114,105])=false:=by have h:=by_ a5;unfold ne_ at h;simpa using h
     by_cases a8:s=o0_
     ·subst a8;have C:=q_ (show o = .mk 9 false 0 X ⟨#[]⟩ [] from by rw[<-Ho.o,<-ac.o];unfold nl_;rw[if_neg (by decide),if_pos rfl]);clear t1 a5;unfold o0_
      go_wp2_with (first
       | ((with_reducible refine e_ (some 64) ?_);refine N_ rfl 39 _ rfl #[(0,.int .i64 9),(3,.string X)] (by kernel_rfl) _ (nu_ _ _ _) ?_)
       | ((with_reducible refine y_ 5 ?_);refine m_ rfl 39 _ _ rfl z5 (#[.int .i64 0,.bool false,.int .i64 0,.string ⟨#[]⟩,.string ⟨#[]⟩,.slice none 0 0]) (#[.int .i64 9,.bool false,.int .i64 0,.string X,.string ⟨#[]⟩,.slice none 0 0]) 39 rfl rfl ak.o rfl (tr_ _ _) (ye_ _ _) ?_;intro Y T I))
      go_meet;exact q_ ⟨none,0,by rw[C.o];exact T,by rw[C.o];exact a6.o _ _ _ _,I⟩
     ·have t2:(s.toList==[66,108,97,110,107])=false:=by have h:=by_ a8;unfold o0_ at h;simpa using h
      by_cases ab:s=Ef_
      ·subst ab;clear t1 t2 a5 a8;unfold Ef_
       go_upto_region 12 with (first
        | ((with_reducible refine e_ (some 69) ?_);refine N_ rfl 39 _ rfl #[(0,.int .i64 10),(3,.string X)] (by kernel_rfl) _ (nu_ _ _ _) ?_)
        | ((with_reducible refine y_ 5 ?_);refine m_ rfl 39 _ _ rfl z5 (#[.int .i64 0,.bool false,.int .i64 0,.string ⟨#[]⟩,.string ⟨#[]⟩,.slice none 0 0]) (#[.int .i64 10,.bool false,.int .i64 0,.string X,.string ⟨#[]⟩,.slice none 0 0]) 39 rfl rfl ak.o rfl (tr_ _ _) (ye_ _ _) ?_;intro Y T I))
       have bs:=q_ T;have bn:=q_ I;have x2:Y.cell? ⟨z,2,none⟩=some (.slice (some ad) n U):=cell_of_heap ((I.block z (b_ af.o) (λe=>by have e:z=z5:=e;have:=J.o;omega)).trans af.o) 2;clear T I p3
       cases r with
       | nil=>
        have C:=q_ (show o = .mk 10 false 0 X ⟨#[]⟩ [] from by rw[<-Ho.o,<-ac.o];unfold nl_;rw[if_neg (by decide),if_neg (by decide),if_pos rfl]);have hn:n=1:=f.o.symm;subst hn;go_wp2_with fail;go_meet;exact q_ ⟨none,0,by rw[C.o];exact bs.o,by rw[C.o];exact a6.o _ _ _ _,bn.o⟩
       | cons q r=>
        have hr:r=[]:=by
         have:=cx.o.2;have:=f.o
         cases r with
         | nil=>rfl
         | cons _ _=>simp at this;omega
        subst hr;have hn:n=2:=f.o.symm;subst hn;obtain⟨tq,c7⟩:=a_ q.v.text;have C:=q_ (show o = .mk 10 false 0 X tq [] from by rw[<-Ho.o,<-ac.o,<-c7.o];unfold nl_;rw[if_neg (by decide),if_neg (by decide),if_pos rfl]);obtain⟨dd,cq,e5,bf,_,au,sq,b7,_⟩:=(HP.o w2 D.o).at_ (i:=1) (x:=q) rfl;injection e5 with e5;subst e5
        have k3:Y.cell? ⟨ad.block,ad.off+7+1+3,none⟩=some (.string tq):=by
         have h:=au 4 (by omega);rw[b7]at h;have h2:(b3_ q sq)[4]?=some (.string tq):=by rw[<-c7.o];rfl
         have ce:=Nat.lt_of_lt_of_le (HF.o _ bf) D.o.size;have h3:Y.cell? (ad.add 11)=w2.cell? (ad.add 11):=(bn.o.cell (p:=ad.add 11) (by rw[bu_];exact Nat.lt_of_lt_of_le ce B.o.size) (by rw[bu_];intro e;have e:ad.block=z5:=e;have h4:w2.heap.size=V:=a7.o;have:=J.o;omega)).trans (B.o.cell (by rw[bu_];exact ce));exact h3.trans (h.trans h2)
        clear au b7 bf;go_wp2_with ((with_reducible refine y_ 80 ?_);refine e9_ rfl 9 _ _ rfl z5 4 (#[.int .i64 10,.bool false,.int .i64 0,.string X,.string ⟨#[]⟩,.slice none 0 0]) 39 (.string tq) rfl rfl (jq_ bs.o (by show 4<6;omega) _) bs.o ?_;intro wf cw de)
        go_meet;exact q_ ⟨none,0,by rw[C.o];exact cw,by rw[C.o];exact a6.o _ _ _ _,bn.o.trans de⟩
      ·have t3:(s.toList==[76,105,116])=false:=by have h:=by_ ab;unfold Ef_ at h;simpa using h
       by_cases ay:s=Eg_
       ·subst ay;have C:=q_ (show o=p.v from by rw[<-Ho.o];unfold nl_;rw[if_neg (by decide),if_neg (by decide),if_neg (by decide),if_pos rfl]);clear t1 t2 t3 a5 a8 ab;unfold Eg_
        go_wp2_with (first
         | ((with_reducible refine e_ (some 83) ?_);refine w_ rfl 39 _ rfl V 0 rfl vp _ (k_ cm.o) Tryz.underlying39 rfl b4.o ?_)
         | ((with_reducible refine y_ 5 ?_);refine m_ rfl 39 _ _ rfl z5 (#[.int .i64 0,.bool false,.int .i64 0,.string ⟨#[]⟩,.string ⟨#[]⟩,.slice none 0 0]) vp 39 rfl rfl ak.o M.size b4.o ch.o ?_;intro Y T I))
        go_meet;obtain⟨A,G,e,_⟩:=(c3.o wd B.o).inv;injection e with e;refine q_ ⟨A,G,by rw[C.o,<-e];exact T,?_,I⟩;rw[C.o,<-e];exact c3.o Y (j_ B.o I (λb e=>by have e:b=z5:=e;have h2:w2.heap.size=V:=a7.o;have:=J.o.1;omega))
       ·have t4:(s.toList==[86,97,108])=false:=by have h:=by_ ay;unfold Eg_ at h;simpa using h
        have C:=q_ (show o=iz_ from by rw[<-Ho.o];unfold nl_;rw[if_neg a5,if_neg a8,if_neg ab,if_neg ay]);clear a5 a8 ab ay;go_wp2_with fail;go_meet;exact q_ ⟨none,0,by rw[C.o];exact ak.o,by rw[C.o];exact a6.o _ _ _ _,Turn.refl _ _⟩
   case rest=>
    rename World=>R
    obtain⟨A,G,aq,b6,ah⟩:=hcut.o;have dr:=q_ ah;have am:=q_ (show Below w.heap.size w R from j_ cy.o ah (λb e=>by have e:b=z5:=e;have:=J.o;omega));have ca:=q_ ((ah.block z (b_ af.o) (λe=>by have e:z=z5:=e;have:=J.o;omega)).trans af.o);have cb:=q_ ((ah.block (z+1) (b_ bw.o) (λe=>by have e:z+1=z5:=e;have:=J.o;omega)).trans bw.o);obtain⟨u,Hu⟩:=F_ o (.slice A o.list.length G);rw[Hu.o]at aq b6;have bm:=q_ aq;have dq:=q_ b6;have IU:=q_ (dq_.trans (congrArg some Hu.size.symm));have OU:=q_ (show u.all (·.oneCell')=true from by rw[<-Hu.o];kernel_rfl);obtain⟨ko,ar⟩:=a_ o.kind;have k0:R.cell? ⟨z5,0,none⟩=some (.int .i64 ko):=(cell_of_heap aq 0).trans (by rw[<-Hu.o,<-ar.o];rfl);have dk:=q_ (show U_ o<=10000000000000000 from by rw[<-Ho.o];exact Nat.le_trans (wb_ (bd.o.2.2.2 p (by simp)).2 (λq hq=>(bd.o.2.2.2 q (by simp[hq])).2)) (by decide));have bb:=q_ (d3_ o dk.o F (.agg u) R (λb hb=>Nat.lt_of_lt_of_le (HF.o b hb) am.o.size) b6 (g_ HG.o am.o));unfold z_ at bb;have c6:=q_ (λj (hj:j<u.size)=>(show R.cell? ((⟨z5,0,none⟩:Addr).add j)=u[j]? from by rw[Addr.add_mid,Nat.zero_add,cell_of_row R z5 j u _ _ bm.o]));obtain⟨mv,ap⟩:=a_ (K_ o 0);rw[ap.o]at bb;obtain⟨ai,Z⟩:=a_ (decide (ko=0\/ko=5\/mv=false));clear hcut aq b6 ah;go_upto_region 16 with fail;go_cut [96] (λdl wy=>dl = .bool ai/\Q_ (Below R.heap.size R wy))
    case first=>
     by_cases a3:ko=0
     ·subst a3;have HB:=q_ (show ai=true from by rw[<-Z.o];simp);go_wp2_with fail;go_meet;exact⟨by rw[HB.o],q_ (Below.refl _ _)⟩
     ·by_cases b3:ko=5
      ·subst b3;have HB:=q_ (show ai=true from by rw[<-Z.o];simp);clear a3;go_wp2_with fail;go_meet;exact⟨by rw[HB.o],q_ (Below.refl _ _)⟩
      ·have t1:(ko==0)=false:=by simpa using a3
       have t2:(ko==5)=false:=by simpa using b3
       have HB:=q_ (show ai = !mv from by rw[<-Z.o];cases mv<;>simp[a3,b3])
       clear a3 b3;go_wp2_with ((with_reducible refine e_ (some 93) ?_);refine ag_ (by rfl) 39 _ rfl rfl u _ c6.o Tryz.underlying39 rfl IU.o ?_)
       refine bb.o.mono ?_;rintro e wy ⟨rfl,hb⟩;have HY:=q_ hb;clear hb;go_wp2_with fail;go_meet;exact⟨by rw[HB.o],HY⟩
    case rest=>
     rename World=>wy
     obtain⟨co,a9⟩:=hcut;have ds:=q_ a9.o;have cj:=q_ (am.o.trans (a9.o.mono am.o.size));have d0:=q_ ((a9.o.block z (b_ ca.o)).trans ca.o);have c4:=q_ ((a9.o.block (z+1) (b_ cb.o)).trans cb.o);have dn:=q_ ((a9.o.block z5 (b_ bm.o)).trans bm.o);clear a9 k0 c6
     cases ai with
     | true=>
      subst co;have HT:=q_ (show b7_ ⟨c,[s],p::r⟩=(iz_,false) from by unfold b7_;rw[E.o,if_pos rfl,show lh_ ⟨c,[s],p::r⟩=o from Ho.o,ar.o,ap.o,if_pos (of_decide_eq_true Z.o)]);go_wp2_with ((with_reducible refine y_ 2 ?_);refine m_ rfl 39 _ _ rfl (z+1) (#[.int .i64 0,.bool false,.int .i64 0,.string ⟨#[]⟩,.string ⟨#[]⟩,.slice none 0 0]) (#[.int .i64 0,.bool false,.int .i64 0,.string ⟨#[]⟩,.string ⟨#[]⟩,.slice none 0 0]) 39 rfl rfl c4.o rfl li_ yd_ ?_;intro w3 bo bh)
      refine bodyPost_ret (v:=.tuple #[.agg #[.int .i64 0,.bool false,.int .i64 0,.string ⟨#[]⟩,.string ⟨#[]⟩,.slice none 0 0],.bool false]) (dr_ Tryz.results78 (g:=z+1) rfl bo _ Tryz.underlying39 rfl li_ rfl) rfl ⟨none,0,by rw[HT.o];rfl,j_ cj.o bh (λb e=>by have e:b=z+1:=e;have:=J.o.2.2;omega)⟩
     | false=>
      subst co;have ao:=of_decide_eq_false Z.o;have d1:=q_ (show mv=true from by cases mv with | true=>rfl | false=>exact absurd (.inr (.inr rfl)) ao);have br:=q_ (show o.list=[] from rq_ (by rw[ap.o];exact d1.o) (by rw[ar.o];exact λe=>ao (.inr (.inl e))));have HT:=q_ (show b7_ ⟨c,[s],p::r⟩=(o,f1_ (E_ c o) ⟨c,[s],p::r⟩) from by unfold b7_;rw[E.o,if_pos rfl,show lh_ ⟨c,[s],p::r⟩=o from Ho.o,ar.o,ap.o,if_neg ao]);clear ao;have cr:=q_ (show c_ o (.slice A 0 G)=u from by rw[<-Hu.o,br.o];rfl);have ba:=λW:World=>rd_ c o br.o A G W;rw[cr.o]at ba;have d4:=q_ ba;have bu:=HU.o;rw[f.o]at bu;have d6:=q_ (show NoR w F ⟨c,[s],p::r⟩ #[.int .i64 c,.slice (some O) 1 c1,.slice (some ad) n U] from bu);obtain⟨q,Hq⟩:=a_ (f1_ (E_ c o) ⟨c,[s],p::r⟩);rw[Hq.o]at HT;clear ba bu;go_upto_region 18 with fail;obtain⟨Y,bq⟩:=a_ wy.drew;have cs:=q_ (show Below w.heap.size w Y from by rw[<-bq.o];exact cj.o.drew);have ci:=q_ (show Y.heap[z+1]?=some (.cells #[.int .i64 0,.bool false,.int .i64 0,.string ⟨#[]⟩,.string ⟨#[]⟩,.slice none 0 0] 39 (0,0)) from by rw[<-bq.o];exact c4.o);refine wp_region_held_drew (S:=λW:World=>W.heap[z5]?=some (Obj.cells u 39 (0,0))/\W.heap[z]?=some (Obj.cells #[.int .i64 c,.slice (some O) 1 c1,.slice (some ad) n U] 72 (0,0))) (by kernel_rfl) ⟨dn.o,d0.o⟩ λd=>?_;refine W_.o ?_;rw[bq.o]at d ⊢;refine tkW 0 98 (.agg u) d (λw a0=>?_) λd=>?_
      ·exact o_ (ab_ a0.1 39 _ Tryz.underlying39 rfl IU.o)
      (try simp only[Act.put,aT,aZ,aS]);refine X_ 1 99 (.pointer (some ⟨z,0,none⟩)) d λd=>?_;(try simp only[Act.put,aT,aZ,aS]);refine tkW 2 100 (.int .i64 c) d (λw a0=>?_) λd=>?_
      ·have p:w.cell? ⟨z,0,none⟩=some (.int .i64 c):=cell_of_heap a0.2 0;unfold s_;go_simp
      (try simp only[Act.put,aT,aZ,aS]);refine tkW 3 101 (.agg u) d (λw a0=>?_) λd=>?_
      ·exact o_ (ab_ a0.1 39 _ Tryz.underlying39 rfl IU.o)
      (try simp only[Act.put,aT,aZ,aS]);refine tkW 5 103 (.agg (#[.int .i64 c,.slice (some O) 1 c1,.slice (some ad) n U])) d (λw a0=>?_) λd=>?_
      ·exact o_ (ab_ a0.2 72 _ Tryz.underlying72 rfl tc_)
      (try simp only[Act.put,aT,aZ,aS]);refine tkC 4 λK hK=>?_;change Oper.wp _ ⟨some 102,_,_,_,_,_⟩ _ _ _ _;go_simp;refine (d4.o _).mono ?_;unfold k2_;rintro e wf ⟨LL,PP,rfl,hl,hp,hb⟩;have dm:=q_ (show NoR wf (λb=>Y.heap.size<=b/\b<wf.heap.size) (E_ c o) (#[.int .i64 c,LL,PP]) from ⟨_,_,by rw[cc_],hl,hp⟩);have d7:=q_ (show wf.heap[z5]?=some (Obj.cells u 39 (0,0))/\wf.heap[z]?=some (Obj.cells #[.int .i64 c,.slice (some O) 1 c1,.slice (some ad) n U] 72 (0,0)) from ⟨(hb.block z5 (b_ d.1)).trans d.1,(hb.block z (b_ d.2)).trans d.2⟩);have bz:=q_ ((hb.block (z+1) (b_ ci.o)).trans ci.o);have b9:=q_ (cs.o.trans (hb.mono cs.o.size));clear hl hp hb;dsimp only;refine hK.out _ _ d7.o λd=>?_;clear hK K;(try simp only[Act.put,aT,aZ,aS]);refine tkC 6 λK hK=>?_;change Oper.wp _ ⟨some 104,_,_,_,_,_⟩ _ _ _ _;go_simp;refine (ri_ (E_ c o) ⟨c,[s],p::r⟩ (λb=>Y.heap.size<=b/\b<wf.heap.size) F _ _ wf (λb h=>h.2) (λb h=>Nat.lt_of_lt_of_le (HF.o b h) b9.o.size) dm.o (NoR.good.keep d6.o (λa ha=>b9.o.cell (HF.o _ ha))) (mj_ c o) (pq_ c br.o)).mono ?_;unfold z_;rw[Hq.o];rintro e wg ⟨rfl,hb⟩;have dp:=q_ (show wg.heap[z5]?=some (Obj.cells u 39 (0,0))/\wg.heap[z]?=some (Obj.cells #[.int .i64 c,.slice (some O) 1 c1,.slice (some ad) n U] 72 (0,0)) from ⟨(hb.block z5 (b_ d.1)).trans d.1,(hb.block z (b_ d.2)).trans d.2⟩);have df:=q_ ((hb.block (z+1) (b_ bz.o)).trans bz.o);have d8:=q_ (b9.o.trans (hb.mono b9.o.size));clear hb;dsimp only;refine hK.out _ _ dp.o λd=>?_;clear hK K;(try simp only[Act.put,aT,aZ,aS]);refine tkC 7 λK hK=>?_;change Oper.wp _ ⟨none,_,_,_,_,_⟩ _ _ _ _;refine sx_ 39 _ _ rfl (z+1) (#[.int .i64 0,.bool false,.int .i64 0,.string ⟨#[]⟩,.string ⟨#[]⟩,.slice none 0 0]) u 39 rfl rfl df.o Hu.size IU.o OU.o λwh ck av=>?_;have cv:=q_ ck;have d5:=q_ (show Below w.heap.size w wh from j_ d8.o av (λb e=>by have e:b=z+1:=e;have:=J.o.2.2;omega));have db:=q_ (show wh.heap[z5]?=some (Obj.cells u 39 (0,0))/\wh.heap[z]?=some (Obj.cells #[.int .i64 c,.slice (some O) 1 c1,.slice (some ad) n U] 72 (0,0)) from ⟨(av.block z5 (b_ d.1) (λe=>by have e:z5=z+1:=e;have:=J.o;omega)).trans d.1,(av.block z (b_ d.2) (λe=>by have e:z=z+1:=e;omega)).trans d.2⟩);clear ck av;refine hK.out _ _ db.o λd=>?_;clear hK K;(try simp only[Act.put,aT,aZ,aS]);refine X_ 8 3 (.bool q) d λd=>?_;(try simp only[Act.put,aT,aZ,aS]);refine⟨wpAnyH_done (by kernel_rfl) ?_ _⟩;clear d;go_wp2_with fail;refine bodyPost_ret (v:=.tuple #[.agg u,.bool q]) (dr_ Tryz.results78 (g:=z+1) rfl cv.o _ Tryz.underlying39 rfl IU.o rfl) rfl ⟨A,G,by rw[HT.o,cr.o],d5.o⟩
end
section
open Go Go.RowKit Go.Maps Go.WideMaps Go.WideElems Go.MapKept Go.ChangeMaps
theorem Gg_ {P:Program} {b:Array Oper} {rest:List Oper} {op:Oper} {a:Act} {w:World} {Q:Exit->Act->World->Prop} (d:op.guard=none) (ty:TypeId) (x y:Operand) (k:op.op = .lookup ty x y false) (e c:Value) (f:a.eval x=e) (n:a.eval y=c) (v:Value) (g:(Instr.lookup ty e c false).run P w = .ok v w) (h:wpList P b Q rest (a.put op.dst v) w):wpList P b Q (op::rest) a w:=
 wpList_plain d λ_ j=>by
  unfold Oper.wp execOp;simp only[k,f,n,Sem.run_bind,Sem.run_pure,g,Result.andThen_ok];exact j _ _ h
theorem Kz_ {P:Program} {b:Array Oper} {rest:List Oper} {op:Oper} {a:Act} {w:World} {Q:Exit->Act->World->Prop} (e:op.guard=none) (ty:TypeId) (x y z:Operand) (n:op.op = .mapUpdate ty x y z) (f c d:Value) (g:a.eval x=f) (o:a.eval y=c) (hz:a.eval z=d) (w':World) (j:(Instr.mapUpdate ty f c d).run P w = .ok () w') (h:wpList P b Q rest (a.put op.dst undef) w'):wpList P b Q (op::rest) a w:=
 wpList_plain e λ_ k=>by
  unfold Oper.wp execOp;simp only[n,g,o,hz,Sem.run_bind,Sem.run_pure,j,Result.andThen_ok];exact k _ _ h
theorem Iz_ (w:World):(Instr.makeMap 134 none).run Tryz.prog w = .ok (.map (some w.heap.size)) (w.alloc (.map #[] 0)):=by kernel_rfl
def StM (w:World) (m:Nat) (l:List (Int×Value)):Prop:=∃(a:Array MapEntry) (clock:Nat),w.heap[m]?=some (.map a clock)/\a.toList.map (λe=>(e.key,e.val))=l.map (λp=>(Value.int .i64 p.1,p.2))/\(∀p,p∈l->VI p.1)/\(l.map (·.1)).Nodup
def mx_ (l:List (Int×Value)) (i:Int):Value:=match l.find? (λp=>decide (p.1=i)) with | some p=>p.2 | none=>.agg #[.int .i64 0,.bool false,.int .i64 0,.string ⟨#[]⟩,.string ⟨#[]⟩,.slice none 0 0]
theorem StM.fresh {w:World} {m:Nat} (h:w.heap[m]?=some (.map #[] 0)):StM w m []:=⟨#[],0,h,rfl,(λ_ h=>by cases h),List.nodup_nil⟩
theorem StM.lt {w:World} {m:Nat} {l:List (Int×Value)} (h:StM w m l):m<w.heap.size:=by obtain⟨b,a,hb,_⟩:=h;exact b_ hb
theorem StM.turn {w w':World} {m:Nat} {l:List (Int×Value)} {S:Nat->Prop} (h:StM w m l) (e:Turn S w w') (d:¬S m):StM w' m l:=by obtain⟨b,a,hb,c⟩:=h;exact⟨b,a,(e.block m (b_ hb) d).trans hb,c⟩
theorem StM.on {w w':World} {m:Nat} {l:List (Int×Value)} (h:StM w m l) (hb:Below w.heap.size w w'):StM w' m l:=
 h.turn (Turn.of_below hb) (λe=>by have:=h.lt;omega)
section
variable {w:World} {m:Nat} {l:List (Int×Value)} {i:Int}
theorem zk_ {b:List MapEntry} (h:b.map (λe=>(e.key,e.val))=l.map (λp=>(Value.int .i64 p.1,p.2))) (d:∀p,p∈l->VI p.1):∀e,e∈b->∃q,keyOf Tryz.prog 2 e.key=some q:=λe c=>by
 have h1:(e.key,e.val)∈l.map (λp=>(Value.int .i64 p.1,p.2)):=by rw[<-h];exact List.mem_map.2 ⟨e,c,rfl⟩
 obtain⟨p,f,a⟩:=List.mem_map.1 h1;injection a with a _;exact⟨ix_ p.1,by rw[<-a];exact keyOf_int_mk Tryz.underlying2 (d p f)⟩
theorem Cc_ {b:List MapEntry} (h:b.map (λe=>(e.key,e.val))=l.map (λp=>(Value.int .i64 p.1,p.2))) (f:∀e,e∈b->e.key ≠ .int .i64 i):∀p,p∈l->p.1≠i:=λp g d=>by
 have h1:((Value.int .i64 p.1,p.2):Value×Value)∈b.map (λe=>(e.key,e.val)):=by rw[h];exact List.mem_map.2 ⟨p,g,rfl⟩
 obtain⟨e,c,a⟩:=List.mem_map.1 h1;injection a with a _;exact f e c (by rw[a,d])
theorem Cd_ {r:List MapEntry} {j:Nat} {e:MapEntry} (h:r.map (λe=>(e.key,e.val))=l.map (λp=>(Value.int .i64 p.1,p.2))) (v:r[j]?=some e) (y:e.key = .int .i64 i) (x:(l.map (·.1)).Nodup):mx_ l i=e.val:=by
 have h1:(l.map (λp=>((Value.int .i64 p.1,p.2):Value×Value)))[j]?=some (.int .i64 i,e.val):=by rw[<-h,List.getElem?_map,v];simp[y]
 rw[List.getElem?_map]at h1
 cases hl:l[j]? with
 | none=>rw[hl]at h1;cases h1
 | some p=>
  rw[hl]at h1;simp only[Option.map_some,Option.some.injEq,Prod.mk.injEq,Value.int.injEq,true_and]at h1;have o:=List.mem_of_getElem? hl;unfold mx_
  cases hf:l.find? (λp=>decide (p.1=i)) with
  | none=>
   have:=List.find?_eq_none.1 hf p o;simp[h1.1]at this
  | some q=>
   have c:=List.find?_some hf;have t:=List.mem_of_find?_eq_some hf;have c:q.1=i:=by simpa using c
   obtain⟨k,d,n⟩:=List.mem_iff_getElem.1 t;obtain⟨f,g⟩:=List.getElem?_eq_some_iff.1 hl
   have s:k=j:=by
    have u:=List.pairwise_iff_getElem.1 x;have b:∀(a:Nat) (h:a<(l.map (·.1)).length),(l.map (·.1))[a]=(l[a]'(by simpa using h)).1:=λa h=>List.getElem_map ..;rcases Nat.lt_trichotomy k j with h | h | h
    ·exact absurd (by rw[b,b,n,g,c,h1.1]) (u k j (by simpa using d) (by simpa using f) h)
    ·exact h
    ·exact absurd (by rw[b,b,n,g,c,h1.1]) (u j k (by simpa using f) (by simpa using d) h)
   subst s;have:q=p:=by rw[<-n,<-g]
   rw[this];exact h1.2
theorem Gh_ (w:World):(zeroValue 39).run Tryz.prog w = .ok (.agg #[.int .i64 0,.bool false,.int .i64 0,.string ⟨#[]⟩,.string ⟨#[]⟩,.slice none 0 0]) w:=by kernel_rfl
theorem rr_ (h:StM w m l) (hi:VI i):(Instr.lookup 134 (.map (some m)) (.int .i64 i) false).run Tryz.prog w = .ok (mx_ l i) w:=by
 obtain⟨e,d,hb,b,f,g⟩:=h;have a:=keyOf_int_mk Tryz.underlying2 hi;rcases tg_.find w a e.toList (zk_ b f) with⟨h1,c⟩ | ⟨j,e0,h1,c,n⟩
 ·have k:=Cc_ b c;have hz:mx_ l i = .agg #[.int .i64 0,.bool false,.int .i64 0,.string ⟨#[]⟩,.string ⟨#[]⟩,.slice none 0 0]:=by unfold mx_;rw[List.find?_eq_none.2 (λp o=>by simpa using k p o)]
  rw[hz];simp[Instr.lookup,run_underlying Tryz.underlying134,MapKept.run_getObj_map hb,tg_.check w _ a,h1,Gh_ w,Result.andThen]
 ·rw[Cd_ b c n g];simp[Instr.lookup,run_underlying Tryz.underlying134,MapKept.run_getObj_map hb,tg_.check w _ a,h1,Result.andThen]
theorem Ce_ (h:StM w m l) (hi:VI i) (t:i∉l.map (·.1)) (v:Value):∃w',(Instr.mapUpdate 134 (.map (some m)) (.int .i64 i) v).run Tryz.prog w = .ok () w'/\StM w' m (l++[(i,v)])/\Turn (λb=>b=m) w w':=by
 obtain⟨o,d,hb,n,r,z⟩:=h;have k:=keyOf_int_mk Tryz.underlying2 hi;rcases tg_.find w k o.toList (zk_ n r) with⟨h1,q⟩ | ⟨j,e0,h1,q,A⟩
 ·refine⟨setBlock w m (.map (o.push ⟨.int .i64 i,v,d⟩) (d+1)),?_,⟨o.push ⟨.int .i64 i,v,d⟩,d+1,?_,?_,?_,?_⟩,?_⟩
  ·simp[Instr.mapUpdate,run_underlying Tryz.underlying134,MapKept.run_getObj_map hb,tg_.check w false k,h1,MapKept.run_setObj_map _ hb,Result.andThen,setBlock]
  ·unfold setBlock;simp[b_ hb]
  ·rw[Array.toList_push,List.map_append,List.map_append,n];rfl
  ·intro p g;rcases List.mem_append.1 g with g | g
   ·exact r p g
   ·rw[List.mem_singleton.1 g];exact hi
  ·rw[List.map_append];refine List.nodup_append.2 ⟨z,by simp,λa y c s f=>?_⟩;simp only[List.map_cons,List.map_nil,List.mem_singleton]at s;exact t (by rw[<-s,<-f];exact y)
  ·refine⟨rfl,rfl,rfl,by unfold setBlock;simp,λb B u=>?_⟩;unfold setBlock;exact Array.getElem?_setIfInBounds_ne λe=>u e.symm
 ·exfalso;have x:((Value.int .i64 i,e0.val):Value×Value)∈l.map (λp=>(Value.int .i64 p.1,p.2)):=by rw[<-n];exact List.mem_map.2 ⟨e0,List.mem_of_getElem? q,by rw[A]⟩
  obtain⟨p,g,f⟩:=List.mem_map.1 x;injection f with f _;injection f with _ f;exact t (List.mem_map.2 ⟨p,g,f⟩)
end
end
end Go.Proofs.YtefhfadjajcmkaaGreatDoor
