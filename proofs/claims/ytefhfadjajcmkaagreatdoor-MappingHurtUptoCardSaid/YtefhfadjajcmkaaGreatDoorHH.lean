/- Which labels may be. -/
import Derived.Test.YtefhfadjajcmkaaGreatDoorHG
set_option linter.unusedVariables false
set_option linter.unusedSimpArgs false
set_option maxRecDepth 100000
set_option maxHeartbeats 64000000
namespace Go.Proofs.YtefhfadjajcmkaaGreatDoor
open Go.Lib (cell_of_heap)
section
open Go Go.RowKit Go.Maps
theorem iv_ (p:C_) (s:Value):∀i,i<6->(b3_ p s)[1+i]?=(c_ p.v s)[i]?:=by
 intro i hi;rcases i with _ | _ | _ | _ | _ | _ | i
 ·rfl
 ·rfl
 ·rfl
 ·rfl
 ·rfl
 ·rfl
 ·omega
theorem Br_ (p r:C_) (E:p.v.list=[]) (A B:Option Addr) (ca cb:Nat) (w:World) :
    Calls Tryz.prog 219 #[.agg (b3_ p (.slice A 0 ca)),.agg (b3_ r (.slice B r.v.list.length cb))] w (z_ (decide (p.key=r.key)&&c0_ p.v r.v) w):=by
 obtain⟨c,C⟩:=jp_ p (.slice A 0 ca);obtain⟨d,y⟩:=jp_ r (.slice B r.v.list.length cb);rw[C.o,y.o];obtain⟨z,g⟩:=a_ w.heap.size;obtain⟨w2,a⟩:=a_ ((w.alloc (.cells c 69)).alloc (.cells d 69));have b:=q_ (show Below w.heap.size w w2 from by rw[<-a.o];exact D_ w _ _);have l:=q_ (show w2.heap[z]?=some (.cells c 69 (0,0)) from by rw[<-a.o,<-g.o];exact heap_alloc2_old w _ _);have j:=q_ (show w2.heap[z+1]?=some (.cells d 69 (0,0)) from by rw[<-a.o,<-g.o];exact heap_alloc2_new w _ _);obtain⟨G,k⟩:=a_ p.key;obtain⟨F,n⟩:=a_ r.key;have P:w2.cell? ⟨z,0,none⟩=some (.string G):=(cell_of_heap l.o 0).trans (by rw[<-C.o,<-k.o];rfl);have S:w2.cell? ⟨z+1,0,none⟩=some (.string F):=(cell_of_heap j.o 0).trans (by rw[<-y.o,<-n.o];rfl);obtain⟨u,f⟩:=F_ p.v (.slice A 0 ca);obtain⟨v,h⟩:=F_ r.v (.slice B r.v.list.length cb);have L:=q_ (dq_.trans (congrArg some f.size.symm));have J:=q_ (dq_.trans (congrArg some h.size.symm));have N:=q_ (λi (hi:i<u.size)=>(show w2.cell? ((⟨z,1,none⟩:Addr).add i)=u[i]? from by rw[Addr.add_mid,cell_of_row w2 z (1+i) c _ _ l.o,<-f.o,<-C.o];exact iv_ p _ i (by rwa [f.size]at hi)));have I:=q_ (λi (hi:i<v.size)=>(show w2.cell? ((⟨z+1,1,none⟩:Addr).add i)=v[i]? from by rw[Addr.add_mid,cell_of_row w2 (z+1) (1+i) d _ _ j.o,<-h.o,<-y.o];exact iv_ r _ i (by rwa [h.size]at hi)));have q:=λW:World=>Bi_ p.v r.v E A B ca cb W;rw[f.o,h.o]at q;have x:=q_ q;clear q E;obtain⟨t,M⟩:=a_ (c0_ p.v r.v);rw[M.o]at x ⊢;unfold z_ at x ⊢;rw[k.o,n.o];by_cases s:G=F
 ·subst s;rw[decide_eq_true rfl,Bool.true_and];go_enter Tryz.func219,Tryz.ntmps219
  go_upto_region 1 with fail;rw[a.o,g.o];clear a
  go_wp2_with (first
   | ((with_reducible refine e_ (some 12) ?_);refine ag_ (by rfl) 39 _ rfl rfl u _ N.o Tryz.underlying39 rfl L.o ?_)
   | ((with_reducible refine e_ (some 14) ?_);refine ag_ (by rfl) 39 _ rfl rfl v _ I.o Tryz.underlying39 rfl J.o ?_))
  refine (x.o _).mono ?_;rintro e R ⟨rfl,hb⟩;have D:=q_ (b.o.trans (hb.mono b.o.size));clear hb;go_wp2_with fail;go_ret;exact⟨rfl,D.o⟩
 ·rw[decide_eq_false s,Bool.false_and];have O:=by_ s;go_enter Tryz.func219,Tryz.ntmps219
  go_upto_region 1 with fail;rw[a.o,g.o];clear a;go_wp2_with fail;go_ret;exact⟨rfl,b.o⟩
theorem Bs_ (i s d E D y:Int) (t x:ByteArray) (A B:Option Addr) (n m ca cb:Nat) (w:World) :
    Calls Tryz.prog 142 #[.agg #[.int .i64 i,.int .i64 s,.int .i64 d,.string t,.slice A n ca],.agg #[.int .i64 E,.int .i64 D,.int .i64 y,.string x,.slice B m cb]] w (z_ (decide (i=E)&&decide (s=D)&&decide (d=y)&&decide (t=x)&&decide (n=0)&&decide (m=0)) w):=by
 obtain⟨z,C⟩:=a_ w.heap.size;obtain⟨w2,c⟩:=a_ ((w.alloc (.cells #[.int .i64 i,.int .i64 s,.int .i64 d,.string t,.slice A n ca] 74)).alloc (.cells #[.int .i64 E,.int .i64 D,.int .i64 y,.string x,.slice B m cb] 74));have e:=q_ (show Below w.heap.size w w2 from by rw[<-c.o];exact D_ w _ _);have b:=q_ (show w2.heap[z]?=some (.cells #[.int .i64 i,.int .i64 s,.int .i64 d,.string t,.slice A n ca] 74 (0,0)) from by rw[<-c.o,<-C.o];exact heap_alloc2_old w _ _);have a:=q_ (show w2.heap[z+1]?=some (.cells #[.int .i64 E,.int .i64 D,.int .i64 y,.string x,.slice B m cb] 74 (0,0)) from by rw[<-c.o,<-C.o];exact heap_alloc2_new w _ _);by_cases h0:i=E
 ·subst h0;by_cases h1:s=D
  ·subst h1;by_cases G:d=y
   ·subst G;by_cases F:t=x
    ·subst F;by_cases I:n=0
     ·subst I;by_cases J:m=0
      ·subst J;have f:=q_ (show true=(decide (i=i)&&decide (s=s)&&decide (d=d)&&decide (t=t)&&decide (0=0)&&decide (0=0)) from by simp);go_enter Tryz.func142,Tryz.ntmps142
       go_upto_region 1 with fail;rw[c.o,C.o];clear c;have j:=cell_of_heap b.o 0;have k:=cell_of_heap b.o 1;have h:=cell_of_heap b.o 2;have l:=cell_of_heap b.o 3;have p:=cell_of_heap b.o 4;have q:=cell_of_heap a.o 0;have v:=cell_of_heap a.o 1;have g:=cell_of_heap a.o 2;have u:=cell_of_heap a.o 3;have r:=cell_of_heap a.o 4;simp only[List.getElem?_toArray,List.getElem?_cons_zero,List.getElem?_cons_succ]at j k h l p q v g u r;go_wp2_with fail;go_ret
       first
        | exact B_ f.o e.o
        | exact B_ rfl e.o
      ·have f:=q_ (show false=(decide (i=i)&&decide (s=s)&&decide (d=d)&&decide (t=t)&&decide (0=0)&&decide (m=0)) from by simp[J]);have t5:((m:Int)==0)=false:=by simp;omega
       go_enter Tryz.func142,Tryz.ntmps142
       go_upto_region 1 with fail;rw[c.o,C.o];clear c;have j:=cell_of_heap b.o 0;have k:=cell_of_heap b.o 1;have h:=cell_of_heap b.o 2;have l:=cell_of_heap b.o 3;have p:=cell_of_heap b.o 4;have q:=cell_of_heap a.o 0;have v:=cell_of_heap a.o 1;have g:=cell_of_heap a.o 2;have u:=cell_of_heap a.o 3;have r:=cell_of_heap a.o 4;simp only[List.getElem?_toArray,List.getElem?_cons_zero,List.getElem?_cons_succ]at j k h l p q v g u r;go_wp2_with fail;go_ret
       first
        | exact B_ f.o e.o
        | exact B_ rfl e.o
     ·have f:=q_ (show false=(decide (i=i)&&decide (s=s)&&decide (d=d)&&decide (t=t)&&decide (n=0)&&decide (m=0)) from by simp[I]);have N:((n:Int)==0)=false:=by simp;omega
      go_enter Tryz.func142,Tryz.ntmps142
      go_upto_region 1 with fail;rw[c.o,C.o];clear c;have j:=cell_of_heap b.o 0;have k:=cell_of_heap b.o 1;have h:=cell_of_heap b.o 2;have l:=cell_of_heap b.o 3;have p:=cell_of_heap b.o 4;have q:=cell_of_heap a.o 0;have v:=cell_of_heap a.o 1;have g:=cell_of_heap a.o 2;have u:=cell_of_heap a.o 3;have r:=cell_of_heap a.o 4;simp only[List.getElem?_toArray,List.getElem?_cons_zero,List.getElem?_cons_succ]at j k h l p q v g u r;go_wp2_with fail;go_ret
      first
       | exact B_ f.o e.o
       | exact B_ rfl e.o
    ·have f:=q_ (show false=(decide (i=i)&&decide (s=s)&&decide (d=d)&&decide (t=x)&&decide (n=0)&&decide (m=0)) from by simp[F]);have M:=by_ F;go_enter Tryz.func142,Tryz.ntmps142
     go_upto_region 1 with fail;rw[c.o,C.o];clear c;have j:=cell_of_heap b.o 0;have k:=cell_of_heap b.o 1;have h:=cell_of_heap b.o 2;have l:=cell_of_heap b.o 3;have p:=cell_of_heap b.o 4;have q:=cell_of_heap a.o 0;have v:=cell_of_heap a.o 1;have g:=cell_of_heap a.o 2;have u:=cell_of_heap a.o 3;have r:=cell_of_heap a.o 4;simp only[List.getElem?_toArray,List.getElem?_cons_zero,List.getElem?_cons_succ]at j k h l p q v g u r;go_wp2_with fail;go_ret
     first
      | exact B_ f.o e.o
      | exact B_ rfl e.o
   ·have f:=q_ (show false=(decide (i=i)&&decide (s=s)&&decide (d=y)&&decide (t=x)&&decide (n=0)&&decide (m=0)) from by simp[G]);have x:(d==y)=false:=by simpa using G
    go_enter Tryz.func142,Tryz.ntmps142
    go_upto_region 1 with fail;rw[c.o,C.o];clear c;have j:=cell_of_heap b.o 0;have k:=cell_of_heap b.o 1;have h:=cell_of_heap b.o 2;have l:=cell_of_heap b.o 3;have p:=cell_of_heap b.o 4;have q:=cell_of_heap a.o 0;have v:=cell_of_heap a.o 1;have g:=cell_of_heap a.o 2;have u:=cell_of_heap a.o 3;have r:=cell_of_heap a.o 4;simp only[List.getElem?_toArray,List.getElem?_cons_zero,List.getElem?_cons_succ]at j k h l p q v g u r;go_wp2_with fail;go_ret
    first
     | exact B_ f.o e.o
     | exact B_ rfl e.o
  ·have f:=q_ (show false=(decide (i=i)&&decide (s=D)&&decide (d=y)&&decide (t=x)&&decide (n=0)&&decide (m=0)) from by simp[h1]);have O:(s==D)=false:=by simpa using h1
   go_enter Tryz.func142,Tryz.ntmps142
   go_upto_region 1 with fail;rw[c.o,C.o];clear c;have j:=cell_of_heap b.o 0;have k:=cell_of_heap b.o 1;have h:=cell_of_heap b.o 2;have l:=cell_of_heap b.o 3;have p:=cell_of_heap b.o 4;have q:=cell_of_heap a.o 0;have v:=cell_of_heap a.o 1;have g:=cell_of_heap a.o 2;have u:=cell_of_heap a.o 3;have r:=cell_of_heap a.o 4;simp only[List.getElem?_toArray,List.getElem?_cons_zero,List.getElem?_cons_succ]at j k h l p q v g u r;go_wp2_with fail;go_ret
   first
    | exact B_ f.o e.o
    | exact B_ rfl e.o
 ·have f:=q_ (show false=(decide (i=E)&&decide (s=D)&&decide (d=y)&&decide (t=x)&&decide (n=0)&&decide (m=0)) from by simp[h0]);have L:(i==E)=false:=by simpa using h0
  go_enter Tryz.func142,Tryz.ntmps142
  go_upto_region 1 with fail;rw[c.o,C.o];clear c;have j:=cell_of_heap b.o 0;have k:=cell_of_heap b.o 1;have h:=cell_of_heap b.o 2;have l:=cell_of_heap b.o 3;have p:=cell_of_heap b.o 4;have q:=cell_of_heap a.o 0;have v:=cell_of_heap a.o 1;have g:=cell_of_heap a.o 2;have u:=cell_of_heap a.o 3;have r:=cell_of_heap a.o 4;simp only[List.getElem?_toArray,List.getElem?_cons_zero,List.getElem?_cons_succ]at j k h l p q v g u r;go_wp2_with fail;go_ret
  first
   | exact B_ f.o e.o
   | exact B_ rfl e.o
def je_ (w:World) (A:Option Addr) (l:List ByteArray):Prop:=∀i x,l[i]?=some x->∃ad,A=some ad/\ad.block<w.heap.size/\w.cell? (ad.add i)=some (.string x)
theorem je_.on {w w':World} {A:Option Addr} {l:List ByteArray} (h:je_ w A l) (hb:Below w.heap.size w w'):je_ w' A l:=λi x b=>by
 obtain⟨ad,e,h1,a⟩:=h i x b;exact⟨ad,e,Nat.lt_of_lt_of_le h1 hb.size,by rw[hb.cell (p:=ad.add i) (by rw[bu_];exact h1)];exact a⟩
theorem Ik_ (l r:List ByteArray) (A B:Option Addr) (n m ca cb:Nat) (w:World) (M:l.length=n) (U:r.length=m) (hn:n<=1000000000) (R:je_ w A l) (J:je_ w B r) :
    Calls Tryz.prog 217 #[.slice A n ca,.slice B m cb] w (z_ (decide (l=r)) w):=by
 have X:=q_ R;have P:=q_ J;have E:=q_ M;have G:=q_ U;obtain⟨t,v⟩:=a_ (decide (l=r));rw[v.o];unfold z_;clear R J M U;go_enter Tryz.func217,Tryz.ntmps217
 by_cases C:n=m
 ·subst C;go_wp2_with fail;go_loopw [13] (λj c=>∃k:Nat,k<=n/\j = .int .i64 (k:Nat)/\Q_ (Below w.heap.size w c/\l.take k=r.take k)) (λj _=>n-(intOf j).toNat)
  case atStart=>exact⟨0,by omega,rfl,q_ ⟨Below.refl _ _,rfl⟩⟩
  case round=>
   rename World=>c
   obtain⟨k,hk,rfl,f⟩:=hrel;by_cases g:k<n
   ·have a1:(0:Int)<=k:=by omega
    have Y:(k:Int)<n:=by omega
    have w1:IntKind.i64.wrap ((k:Int)+1)=(k:Int)+1:=IntWalk.i64_in _ (by omega);have z:=q_ g;have d:=q_ f.o.1;have O:=q_ f.o.2;obtain⟨x,F⟩:∃x,l[k]?=some x:=⟨_,List.getElem?_eq_getElem (by rw[E.o];exact g)⟩;obtain⟨y,D⟩:∃y,r[k]?=some y:=⟨_,List.getElem?_eq_getElem (by rw[G.o];exact g)⟩;have u:=q_ F;have i:=q_ D;obtain⟨ad,rfl,_,pa⟩:=X.o.on f.o.1 k x F;obtain⟨q,rfl,_,pb⟩:=P.o.on f.o.1 k y D;have I:=q_ (λ(W:World) (hb:Below c.heap.size c W)=>(show W.cell? (ad.add k)=some (.string x) from by obtain⟨L,e,_,p⟩:=X.o.on (d.o.trans (hb.mono d.o.size)) k x u.o;injection e with e;rw[e];exact p));have N:=q_ (λ(W:World) (hb:Below c.heap.size c W)=>(show W.cell? (q.add k)=some (.string y) from by obtain⟨L,e,_,p⟩:=P.o.on (d.o.trans (hb.mono d.o.size)) k y i.o;injection e with e;rw[e];exact p));clear F D f g;by_cases h:x=y
    ·subst h;go_upto_region 6 with fail;refine wp_region_held_drew (S:=λW:World=>Below c.heap.size c W) (by kernel_rfl) (Below.refl _ _).drew λa=>?_;refine W_.o ?_;refine X_ 0 16 (.slice (some ad) n ca) a λa=>?_;(try simp only[Act.put,aT,aZ,aS]);refine X_ 1 17 (.int .i64 (k:Nat)) a λa=>?_;(try simp only[Act.put,aT,aZ,aS]);refine X_ 2 18 (.pointer (some (ad.add k))) a λa=>?_;(try simp only[Act.put,aT,aZ,aS]);refine tkW 3 19 (.string x) a (λw b=>?_) λa=>?_
     ·have p:=I.o w b;unfold s_;go_simp
     (try simp only[Act.put,aT,aZ,aS]);refine X_ 4 20 (.slice (some q) n cb) a λa=>?_;(try simp only[Act.put,aT,aZ,aS]);refine X_ 5 21 (.int .i64 (k:Nat)) a λa=>?_;(try simp only[Act.put,aT,aZ,aS]);refine X_ 6 22 (.pointer (some (q.add k))) a λa=>?_;(try simp only[Act.put,aT,aZ,aS]);refine tkW 7 23 (.string x) a (λw b=>?_) λa=>?_
     ·have p:=N.o w b;unfold s_;go_simp
     (try simp only[Act.put,aT,aZ,aS]);refine X_ 8 24 (.bool false) a λa=>?_;(try simp only[Act.put,aT,aZ,aS]);refine⟨wpAnyH_done (by kernel_rfl) ?_ _⟩;clear a;go_wp2_with fail;go_roundw
     case rel=>exact⟨k+1,by have:=z.o;omega,by go_num,q_ ⟨d.o.drew,by rw[f_ u.o,f_ i.o,O.o]⟩⟩
     case measure=>simp[intOf];have:=z.o;omega
    ·have T:=by_ h;have s:=q_ (show t=false from by rw[<-v.o];refine decide_eq_false (λe=>h ?_);have h1:=u.o;rw[e,i.o]at h1;injection h1 with h1;exact h1.symm);clear h;go_upto_region 6 with fail;refine wp_region_held_drew (S:=λW:World=>Below c.heap.size c W) (by kernel_rfl) (Below.refl _ _).drew λa=>?_;refine W_.o ?_;refine X_ 0 16 (.slice (some ad) n ca) a λa=>?_;(try simp only[Act.put,aT,aZ,aS]);refine X_ 1 17 (.int .i64 (k:Nat)) a λa=>?_;(try simp only[Act.put,aT,aZ,aS]);refine X_ 2 18 (.pointer (some (ad.add k))) a λa=>?_;(try simp only[Act.put,aT,aZ,aS]);refine tkW 3 19 (.string x) a (λw b=>?_) λa=>?_
     ·have p:=I.o w b;unfold s_;go_simp
     (try simp only[Act.put,aT,aZ,aS]);refine X_ 4 20 (.slice (some q) n cb) a λa=>?_;(try simp only[Act.put,aT,aZ,aS]);refine X_ 5 21 (.int .i64 (k:Nat)) a λa=>?_;(try simp only[Act.put,aT,aZ,aS]);refine X_ 6 22 (.pointer (some (q.add k))) a λa=>?_;(try simp only[Act.put,aT,aZ,aS]);refine tkW 7 23 (.string y) a (λw b=>?_) λa=>?_
     ·have p:=N.o w b;unfold s_;go_simp
     (try simp only[Act.put,aT,aZ,aS]);refine X_ 8 24 (.bool true) a λa=>?_;(try simp only[Act.put,aT,aZ,aS]);refine⟨wpAnyH_done (by kernel_rfl) ?_ _⟩;clear a;go_wp2_with fail;go_ret;exact⟨(by rw[s.o];rfl),d.o.drew⟩
   ·have Y:¬(k:Int)<n:=by omega
    have Z:k=n:=by omega
    have s:=q_ (show t=true from by rw[<-v.o];refine decide_eq_true ?_;have h1:=f.o.2;rwa [List.take_of_length_le (by rw[E.o];omega),List.take_of_length_le (by rw[G.o];omega)]at h1);go_wp2_with fail;go_ret;exact⟨(by rw[s.o];rfl),f.o.1⟩
 ·have T:¬((n:Int)=(m:Int)):=by omega
  have s:=q_ (show t=false from by rw[<-v.o];exact decide_eq_false (λe=>C (by rw[<-E.o,<-G.o,e])));go_wp2_with fail;go_ret;exact⟨(by rw[s.o];rfl),Below.refl _ _⟩
noncomputable def mf_ (p r:C_):Bool:=decide (p.key=r.key)&&c0_ p.v r.v
theorem xz_ {p r:C_}:mf_ p r=true↔p=r:=by
 unfold mf_;rw[Bool.and_eq_true,decide_eq_true_eq,jc_]
 cases p
 cases r;simp
def at2 {a : Type} (f:a -> a -> Bool) (l r:List a) (i:Nat):Bool:=match l[i]?,r[i]? with | some x,some y=>f x y | _,_=>true
def gv_ {a : Type} (f:a -> a -> Bool) (l r:List a):Bool:=decide (l.length=r.length)&&(List.range l.length).all (at2 f l r)
theorem ka_ {a : Type} {f:a -> a -> Bool} {l r:List a} (b:∀x,x∈l->∀y,y∈r->(f x y=true↔x=y)):gv_ f l r=true↔l=r:=by
 unfold gv_;rw[Bool.and_eq_true,decide_eq_true_eq,List.all_eq_true];constructor
 ·rintro⟨h1,d⟩;refine List.ext_getElem? λi=>?_;by_cases hi:i<l.length
  ·have c:i<r.length:=by omega
   have h:=d i (List.mem_range.2 hi);unfold at2 at h;rw[List.getElem?_eq_getElem hi,List.getElem?_eq_getElem c]at h ⊢;rw[(b _ (List.getElem_mem hi) _ (List.getElem_mem c)).1 h]
  ·rw[List.getElem?_eq_none (by omega),List.getElem?_eq_none (by omega)]
 ·rintro rfl;refine⟨rfl,λi hi=>?_⟩;have hi:=List.mem_range.1 hi;unfold at2;rw[List.getElem?_eq_getElem hi];exact (b _ (List.getElem_mem hi) _ (List.getElem_mem hi)).2 rfl
noncomputable def f1_ (a b:i_):Bool:=decide (a.id=b.id)&&(decide (a.labels=b.labels)&&gv_ mf_ a.props b.props)
theorem pg_ {a b:i_}:f1_ a b=true↔a=b:=by
 unfold f1_;rw[Bool.and_eq_true,Bool.and_eq_true,decide_eq_true_eq,decide_eq_true_eq,ka_ λx _ y _=>xz_]
 cases a
 cases b;simp
theorem fi_ {p : Type} {R:bi_ p} {sz:Nat} {w:World} {F:Nat->Prop} {l:List p} {A:Option Addr} {n:Nat} (h:SRd sz R w F l A n) (r:∀b,F b->b<w.heap.size) (k:∀x c,R w F x c->c.all (·.oneCell')=true) :
    ∃cs:Nat->Array Value,eg_ w sz A n cs/\∀i x,l[i]?=some x->R w F x (cs i):=by
 have q:∀i,∃c:Array Value,∀x,l[i]?=some x->(∃ad,A=some ad/\F ad.block/\c.size=sz/\(∀j,j<sz->w.cell? (ad.add (i*sz+j))=c[j]?))/\R w F x c:=λi=>by
  by_cases hi:i<l.length
  ·obtain⟨ad,c,e,f,h1,g,o⟩:=h.at_ (List.getElem?_eq_getElem hi);refine⟨c,λx a=>?_⟩;rw[List.getElem?_eq_getElem hi]at a;injection a with a;exact⟨⟨ad,e,f,h1,g⟩,a▸o⟩
  ·exact⟨#[],λx a=>by rw[List.getElem?_eq_none (by omega)]at a;cases a⟩
 obtain⟨cs,d⟩:=Classical.skolem.1 q;refine⟨cs,λi hi=>?_,λi x a=>(d i x a).2⟩;have hi:i<l.length:=by rw[<-h.1];exact hi
 obtain⟨⟨ad,e,f,h1,g⟩,o⟩:=d i _ (List.getElem?_eq_getElem hi);exact⟨ad,e,r _ f,h1,k _ _ o,g⟩
theorem vm_ {w:World} {F:Nat->Prop} {l:List ByteArray} {A:Option Addr} {n:Nat} (h:SRd 1 TxR w F l A n) (j:∀b,F b->b<w.heap.size):je_ w A l:=λi x f=>by
 obtain⟨ad,c,e,d,_,g,a⟩:=h.at_ f;have a:c=#[.string x]:=a;refine⟨ad,e,j _ d,?_⟩;have:=g 0 (by omega);rw[Nat.mul_one,Nat.add_zero,a]at this;exact this
theorem iw_ {w:World} {F:Nat->Prop} {p:C_} {c:Array Value} (h:PaR w F p c):∃A b,c=b3_ p (.slice A p.v.list.length b):=by obtain⟨s,rfl,f⟩:=h;obtain⟨A,b,e,_⟩:=f.inv;refine⟨A,b,?_⟩;unfold c_ at e;injection e with e;have d:=congrArg (λa:Array Value=>a[5]?) e;have d:some s=some (.slice A p.v.list.length b):=d;injection d with d;rw[d]
theorem zd_ {w:World} {F:Nat->Prop} {p:C_} {c:Array Value} (h:PaR w F p c):c.all (·.oneCell')=true:=by obtain⟨A,a,rfl⟩:=iw_ h;kernel_rfl
theorem ri_ (a b:i_) (F G:Nat->Prop) (u v:Array Value) (w:World) (hF:∀g,F g->g<w.heap.size) (hG:∀g,G g->g<w.heap.size) (h1:NoR w F a u) (h2:NoR w G b v) (hn:a.labels.length<=1000000000/\a.props.length<=1000000000) (hl:∀p,p∈a.props->p.v.list=[]) :
    Calls Tryz.prog 141 #[.agg u,.agg v] w (z_ (f1_ a b) w):=by
 obtain⟨_,_,rfl,⟨C,B,rfl,_,a0⟩,⟨x,A,rfl,_,L⟩⟩:=h1;obtain⟨_,_,rfl,⟨y,I,rfl,_,X⟩,⟨D,t,rfl,_,N⟩⟩:=h2;obtain⟨cs,U,M⟩:=fi_ L hF λ_ _ h=>zd_ h;obtain⟨ds,R,Z⟩:=fi_ N hG λ_ _ h=>zd_ h;have l:=q_ λ(W:World) (hb:Below w.heap.size w W)=>Ik_ a.labels b.labels C y _ _ B I W rfl rfl hn.1 ((vm_ a0 hF).on hb) ((vm_ X hG).on hb)
 have k:=q_ (λ(W:World) (hb:Below w.heap.size w W)=>Bq_ cs ds (at2 mf_ a.props b.props) x D _ _ A t W hn.2 (U.on hb) (R.on hb) (λi hi hj W2 _=>by
  have e1:=List.getElem?_eq_getElem hi;have e2:=List.getElem?_eq_getElem hj;obtain⟨P,q,e3⟩:=iw_ (M i _ e1);obtain⟨Q,q',e4⟩:=iw_ (Z i _ e2);have hz:=hl _ (List.getElem_mem hi);rw[hz]at e3;have:=Br_ a.props[i] b.props[i] hz P Q q q' W2;unfold at2;rw[e1,e2,e3,e4];exact this))
 obtain⟨i,Hi⟩:=a_ a.id;obtain⟨s,a4⟩:=a_ b.id;obtain⟨n1,J⟩:=a_ a.labels.length;obtain⟨n2,T⟩:=a_ a.props.length;obtain⟨m1,a3⟩:=a_ b.labels.length;obtain⟨m2,O⟩:=a_ b.props.length;obtain⟨x1,a2⟩:=a_ (decide (a.labels=b.labels));obtain⟨x2,Y⟩:=a_ (gv_ mf_ a.props b.props);unfold f1_;rw[a2.o]at l;have a1:=q_ (show (decide (a.props.length=b.props.length)&&(List.range a.props.length).all (at2 mf_ a.props b.props))=x2 from Y.o);rw[a1.o]at k;rw[J.o,a3.o]at l;rw[T.o,O.o]at k;rw[a2.o,Y.o,Hi.o,a4.o,J.o,T.o,a3.o,O.o];clear a0 L X N U M R Z hl hn hF hG a1;obtain⟨z,E⟩:=a_ w.heap.size;obtain⟨w2,c⟩:=a_ ((w.alloc (.cells #[.int .i64 i,.slice C n1 B,.slice x n2 A] 72)).alloc (.cells #[.int .i64 s,.slice y m1 I,.slice D m2 t] 72));have f:=q_ (show Below w.heap.size w w2 from by rw[<-c.o];exact D_ w _ _);have n:=q_ (show w2.heap[z]?=some (.cells #[.int .i64 i,.slice C n1 B,.slice x n2 A] 72 (0,0)) from by rw[<-c.o,<-E.o];exact heap_alloc2_old w _ _);have j:=q_ (show w2.heap[z+1]?=some (.cells #[.int .i64 s,.slice y m1 I,.slice D m2 t] 72 (0,0)) from by rw[<-c.o,<-E.o];exact heap_alloc2_new w _ _);have p0:w2.cell? ⟨z,0,none⟩=some (.int .i64 i):=cell_of_heap n.o 0;have q0:w2.cell? ⟨z+1,0,none⟩=some (.int .i64 s):=cell_of_heap j.o 0;unfold z_ at l k;by_cases hi:i=s
 ·subst hi;rw[decide_eq_true rfl,Bool.true_and];obtain⟨r,Hr⟩:=a_ (x1&&x2);rw[Hr.o];have p1:w2.cell? ⟨z,1,none⟩=some (.slice C n1 B):=cell_of_heap n.o 1;have q1:w2.cell? ⟨z+1,1,none⟩=some (.slice y m1 I):=cell_of_heap j.o 1;unfold z_;go_enter Tryz.func141,Tryz.ntmps141
  go_upto_region 1 with fail;rw[c.o,E.o];clear c;go_wp2_with fail;refine (l.o w2 f.o).mono ?_;rintro e x0 ⟨rfl,hb⟩;have S:=q_ hb;have d:=q_ (f.o.trans (hb.mono f.o.size));clear hb
  cases x1 with
  | false=>
   have HN:=q_ (show false=r from Hr.o);go_wp2_with fail;go_ret;exact⟨(by rw[<-HN.o];rfl),d.o⟩
  | true=>
   have HN:=q_ (show x2=r from Hr.o);have p2:x0.cell? ⟨z,2,none⟩=some (.slice x n2 A):=(S.o.cell (b_ n.o)).trans (cell_of_heap n.o 2);have q2:x0.cell? ⟨z+1,2,none⟩=some (.slice D m2 t):=(S.o.cell (b_ j.o)).trans (cell_of_heap j.o 2);go_wp2_with fail;refine (k.o x0 d.o).mono ?_;rintro e x5 ⟨rfl,hb⟩;have a5:=q_ (d.o.trans (hb.mono d.o.size));clear hb;go_wp2_with fail;go_ret;exact⟨(by rw[<-HN.o];rfl),a5.o⟩
 ·rw[decide_eq_false hi,Bool.false_and];have t3:(i==s)=false:=by simpa using hi
  unfold z_;go_enter Tryz.func141,Tryz.ntmps141
  go_upto_region 1 with fail;rw[c.o,E.o];clear c;go_wp2_with fail;go_ret;exact⟨rfl,f.o⟩
def mg_ (x y:l_):Bool:=decide (x.id=y.id)&&decide (x.src=y.src)&&decide (x.dst=y.dst)&&decide (x.type=y.type)&&decide (x.props.length=0)&&decide (y.props.length=0)
theorem x0_ {x y:l_} (e:x.props=[]):mg_ x y=true↔x=y:=by
 unfold mg_;simp only[Bool.and_eq_true,decide_eq_true_eq,List.length_eq_zero_iff]
 cases x
 cases y;simp only at e;subst e;simp only[l_.mk.injEq];constructor
 ·rintro⟨⟨⟨⟨⟨h1,b⟩,d⟩,a⟩,_⟩,c⟩;exact⟨h1,b,d,a,c.symm⟩
 ·rintro⟨h1,b,d,a,c⟩;exact⟨⟨⟨⟨⟨h1,b⟩,d⟩,a⟩,trivial⟩,c.symm⟩
noncomputable def mh_ (g h:u_):Bool:=gv_ f1_ g.nodes h.nodes&&gv_ mg_ g.edges h.edges
theorem x1_ {g h:u_} (b:∀e,e∈g.edges->e.props=[]):mh_ g h=true↔g=h:=by
 unfold mh_;rw[Bool.and_eq_true,ka_ λx _ y _=>pg_,ka_ λx a y _=>x0_ (b x a)]
 cases g
 cases h;simp
theorem td_ {w:World} {F:Nat->Prop} {x:i_} {c:Array Value} (h:NoR w F x c):c.all (·.oneCell')=true:=by obtain⟨_,_,rfl,⟨_,_,rfl,_⟩,⟨_,_,rfl,_⟩⟩:=h;kernel_rfl
theorem te_ {w:World} {F:Nat->Prop} {x:l_} {c:Array Value} (h:EdR w F x c):c.all (·.oneCell')=true:=by obtain⟨_,rfl,⟨_,_,rfl,_⟩⟩:=h;kernel_rfl
theorem ph_ {w:World} {F:Nat->Prop} {x:l_} {c:Array Value} (h:EdR w F x c):∃A a,c=#[.int .i64 x.id,.int .i64 x.src,.int .i64 x.dst,.string x.type,.slice A x.props.length a]:=by obtain⟨_,rfl,⟨A,a,rfl,_⟩⟩:=h;exact⟨A,a,rfl⟩
theorem x2_ (g h:u_) (F G:Nat->Prop) (u v:Value) (w:World) (f:∀b,F b->b<w.heap.size) (d:∀b,G b->b<w.heap.size) (h1:GrR w F g u) (h2:GrR w G h v) (hn:g.nodes.length<=1000000000/\g.edges.length<=1000000000)
    (hl:∀n,n∈g.nodes->n.labels.length<=1000000000/\n.props.length<=1000000000/\∀p,p∈n.props->p.v.list=[]) :
    Calls Tryz.prog 79 #[u,v] w (z_ (mh_ g h) w):=by
 obtain⟨_,_,rfl,⟨N,L,rfl,_,a3⟩,⟨y,E,rfl,_,X⟩⟩:=h1;obtain⟨_,_,rfl,⟨B,S,rfl,_,a1⟩,⟨O,x,rfl,_,a⟩⟩:=h2
 have M:=q_ (show ∀W:World,Below w.heap.size w W->Calls Tryz.prog 143 #[.slice N g.nodes.length L,.slice B h.nodes.length S,.func (.func 141) #[] #[]] W (z_ (gv_ f1_ g.nodes h.nodes) W) from λW hb=>by
  obtain⟨cs,D,s⟩:=fi_ (a3.under NoR.good hb f) (λb k=>Nat.lt_of_lt_of_le (f b k) hb.size) λ_ _ h=>td_ h;obtain⟨ds,A,I⟩:=fi_ (a1.under NoR.good hb d) (λb k=>Nat.lt_of_lt_of_le (d b k) hb.size) λ_ _ h=>td_ h;refine Bo_ cs ds (at2 f1_ g.nodes h.nodes) N B _ _ L S W hn.1 D A (λi hi hj W2 a=>?_);have C:=List.getElem?_eq_getElem hi;have R:=List.getElem?_eq_getElem hj;have hz:=hl _ (List.getElem_mem hi);have:=ri_ g.nodes[i] h.nodes[i] F G (cs i) (ds i) W2 (λb k=>Nat.lt_of_lt_of_le (f b k) (hb.trans (a.mono hb.size)).size) (λb k=>Nat.lt_of_lt_of_le (d b k) (hb.trans (a.mono hb.size)).size) (NoR.good.keep (s i _ C) (λp hp=>a.cell (Nat.lt_of_lt_of_le (f _ hp) hb.size))) (NoR.good.keep (I i _ R) (λp hp=>a.cell (Nat.lt_of_lt_of_le (d _ hp) hb.size))) ⟨hz.1,hz.2.1⟩ hz.2.2;unfold at2;rw[C,R];exact this)
 have J:=q_ (show ∀W:World,Below w.heap.size w W->Calls Tryz.prog 144 #[.slice y g.edges.length E,.slice O h.edges.length x,.func (.func 142) #[] #[]] W (z_ (gv_ mg_ g.edges h.edges) W) from λW hb=>by
  obtain⟨cs,D,s⟩:=fi_ (X.under EdR.good hb f) (λb k=>Nat.lt_of_lt_of_le (f b k) hb.size) λ_ _ h=>te_ h;obtain⟨ds,A,I⟩:=fi_ (a.under EdR.good hb d) (λb k=>Nat.lt_of_lt_of_le (d b k) hb.size) λ_ _ h=>te_ h;refine Bp_ cs ds (at2 mg_ g.edges h.edges) y O _ _ E x W hn.2 D A (λi hi hj W2 a=>?_);have C:=List.getElem?_eq_getElem hi;have R:=List.getElem?_eq_getElem hj;obtain⟨P,q,e3⟩:=ph_ (s i _ C);obtain⟨Q,q',e4⟩:=ph_ (I i _ R);unfold at2;rw[C,R,e3,e4];exact Bs_ _ _ _ _ _ _ _ _ _ _ _ _ _ _ W2)
 unfold mh_;obtain⟨n1,U⟩:=a_ g.nodes.length;obtain⟨n2,a0⟩:=a_ g.edges.length;obtain⟨m1,a5⟩:=a_ h.nodes.length;obtain⟨m2,Y⟩:=a_ h.edges.length;obtain⟨x1,a4⟩:=a_ (gv_ f1_ g.nodes h.nodes);obtain⟨x2,a2⟩:=a_ (gv_ mg_ g.edges h.edges);rw[a4.o,U.o,a5.o]at M;rw[a2.o,a0.o,Y.o]at J;rw[a4.o,a2.o,U.o,a0.o,a5.o,Y.o];clear a3 X a1 a hl hn f d;obtain⟨z,Hz⟩:=a_ w.heap.size;obtain⟨w2,c⟩:=a_ ((w.alloc (.cells #[.slice N n1 L,.slice y n2 E] 54)).alloc (.cells #[.slice B m1 S,.slice O m2 x] 54));have l:=q_ (show Below w.heap.size w w2 from by rw[<-c.o];exact D_ w _ _);have T:=q_ (show w2.heap[z]?=some (.cells #[.slice N n1 L,.slice y n2 E] 54 (0,0)) from by rw[<-c.o,<-Hz.o];exact heap_alloc2_old w _ _);have t:=q_ (show w2.heap[z+1]?=some (.cells #[.slice B m1 S,.slice O m2 x] 54 (0,0)) from by rw[<-c.o,<-Hz.o];exact heap_alloc2_new w _ _);have p0:w2.cell? ⟨z,0,none⟩=some (.slice N n1 L):=cell_of_heap T.o 0;have q0:w2.cell? ⟨z+1,0,none⟩=some (.slice B m1 S):=cell_of_heap t.o 0;obtain⟨r,Hr⟩:=a_ (x1&&x2);rw[Hr.o];unfold z_ at M J ⊢;go_enter Tryz.func79,Tryz.ntmps79
 go_upto_region 1 with fail;rw[c.o,Hz.o];clear c;go_wp2_with fail;refine (M.o w2 l.o).mono ?_;rintro e x0 ⟨rfl,hb⟩;have Z:=q_ hb;have j:=q_ (l.o.trans (hb.mono l.o.size));clear hb
 cases x1 with
 | false=>
  have HN:=q_ (show false=r from Hr.o);go_wp2_with fail;go_ret;exact⟨(by rw[<-HN.o];rfl),j.o⟩
 | true=>
  have HN:=q_ (show x2=r from Hr.o);have p2:x0.cell? ⟨z,1,none⟩=some (.slice y n2 E):=(Z.o.cell (b_ T.o)).trans (cell_of_heap T.o 1);have q2:x0.cell? ⟨z+1,1,none⟩=some (.slice O m2 x):=(Z.o.cell (b_ t.o)).trans (cell_of_heap t.o 1);go_wp2_with fail;refine (J.o x0 j.o).mono ?_;rintro e x5 ⟨rfl,hb⟩;have a6:=q_ (j.o.trans (hb.mono j.o.size));clear hb;go_wp2_with fail;go_ret;exact⟨(by rw[<-HN.o];rfl),a6.o⟩
end
section
open Go Go.RowKit Go.Maps Go.WideMaps
def am_ (s:ByteArray):Bool:=decide (1<=s.size/\s.size<=1048576)
theorem tf_ (s:ByteArray) (w:World):Calls Tryz.prog 87 #[.string s] w λe w'=>e = .returned (.bool (am_ s))/\w'=w:=by
 have c:am_ s=decide (1<=s.size/\s.size<=1048576):=rfl;generalize am_ s=r at c ⊢;have d:=q_ c;clear c;by_cases h1:1<=s.size
 ·by_cases b:s.size<=1048576
  ·have f:decide ((1:Int)<=s.size)=true:=decide_eq_true (by omega);have g:decide ((s.size:Int)<=1048576)=true:=decide_eq_true (by omega);have a:r=true:=by rw[d.o];exact decide_eq_true ⟨h1,b⟩
   clear h1 b;go_enter Tryz.func87,Tryz.ntmps87
   go_wp2
   go_ret;exact⟨by rw[a];rfl,rfl⟩
  ·have f:decide ((1:Int)<=s.size)=true:=decide_eq_true (by omega);have g:decide ((s.size:Int)<=1048576)=false:=decide_eq_false (by omega);have a:r=false:=by rw[d.o];exact decide_eq_false λh=>b h.2
   clear h1 b;go_enter Tryz.func87,Tryz.ntmps87
   go_wp2
   go_ret;exact⟨by rw[a];rfl,rfl⟩
 ·have f:decide ((1:Int)<=s.size)=false:=decide_eq_false (by omega);have a:r=false:=by rw[d.o];exact decide_eq_false λh=>h1 h.1
  clear h1;go_enter Tryz.func87,Tryz.ntmps87
  go_wp2
  go_ret;exact⟨by rw[a];rfl,rfl⟩
def dy_ (a b:Int):Int:=if a<b then -1 else if b<a then 1 else 0
theorem vn_ (a b:Int) (w:World):Calls Tryz.prog 96 #[.int .i64 a,.int .i64 b] w λe w'=>e = .returned (.int .i64 (dy_ a b))/\w'=w:=by
 by_cases h1:a<b
 ·have c:=q_ (show dy_ a b = -1 from if_pos h1);generalize dy_ a b=r at c ⊢;have f:decide (a<b)=true:=decide_eq_true h1;clear h1;go_enter Tryz.func96,Tryz.ntmps96
  go_wp2
  go_ret;exact⟨by rw[c.o];rfl,rfl⟩
 ·by_cases d:b<a
  ·have c:=q_ (show dy_ a b=1 from (if_neg h1).trans (if_pos d));generalize dy_ a b=r at c ⊢;have f:decide (a<b)=false:=decide_eq_false h1;have g:decide (b<a)=true:=decide_eq_true d;clear h1 d;go_enter Tryz.func96,Tryz.ntmps96
   go_wp2
   go_ret;exact⟨by rw[c.o];rfl,rfl⟩
  ·have c:=q_ (show dy_ a b=0 from (if_neg h1).trans (if_neg d));generalize dy_ a b=r at c ⊢;have f:decide (a<b)=false:=decide_eq_false h1;have g:decide (b<a)=false:=decide_eq_false d;clear h1 d;go_enter Tryz.func96,Tryz.ntmps96
   go_wp2
   go_ret;exact⟨by rw[c.o];rfl,rfl⟩
def VI (x:Int):Prop:=(Lit.int .i64 x).wf=true
def ix_ (x:Int):Lit:=.int .i64 x
theorem vo_:∀x y:Int,VI x->VI y->ix_ x=ix_ y->x=y:=λx y _ _ h=>by
 unfold ix_ at h;injection h
theorem vp_:∀x:Int,VI x->WideAt.IsKeyLit (ix_ x):=λ_ _=>trivial
theorem tg_:Keyed Tryz.prog 2:=int_keyed Tryz.underlying2
theorem vq_ (w:World):(zeroValue 207).run Tryz.prog w = .ok (.agg #[]) w:=by kernel_rfl
def inB {K:Type} [DecidableEq K] (ks:List K) (x:K):Bool:=decide (x∈ks)
theorem gi_ {K:Type} [DecidableEq K] {ks:List K} {x:K} (h:x∈ks):inB ks x=true:=by unfold inB;exact decide_eq_true h
theorem th_ {K:Type} [DecidableEq K] {ks:List K} {x:K} (h:x∉ks):inB ks x=false:=by unfold inB;exact decide_eq_false h
def a5_ {K:Type} [DecidableEq K] (kt:TypeId) (V:K->Prop) (lit:K->Lit) (w:World) (m:Nat) (ks:List K):Prop:=
 ∃D:DataW Unit,w.ownsMap Tryz.prog kt (unitElem (H:=Unit)) m ks.length D/\∀x,V x->Maps.has D (lit x)=inB ks x
def f2_ {K:Type} [DecidableEq K] (ks:List K) (x:K):List K:=if inB ks x=true then ks else ks++[x]
section
variable {K:Type} [DecidableEq K] {kt:TypeId} {V:K->Prop} {lit:K->Lit} {w w':World} {m:Nat} {ks:List K}
theorem a5_.turn (h:a5_ kt V lit w m ks) {S:Nat->Prop} (c:Turn S w w') (b:¬S m):a5_ kt V lit w' m ks:=by obtain⟨D,h1,a⟩:=h;exact⟨D,c.map h1 b,a⟩
theorem a5_.lt (h:a5_ kt V lit w m ks):m<w.heap.size:=by obtain⟨D,⟨b,a,hb,_⟩,_⟩:=h;exact b_ hb
theorem a5_.below (h:a5_ kt V lit w m ks) (hb:Below w.heap.size w w'):a5_ kt V lit w' m ks:=h.turn (Turn.of_below hb) (λa=>by have:=h.lt;omega)
theorem a5_.made (kt:TypeId) (V:K->Prop) (lit:K->Lit) (w:World):a5_ kt V lit (w.alloc (.map #[] 0)) w.heap.size ([]:List K):=
 ⟨.map [],World.ownsMap_made w _ _ _,λ_ _=>rfl⟩
theorem a5_.put (hi:∀x y,V x->V y->lit x=lit y->x=y) (g:∀x,V x->WideAt.IsKeyLit (lit x)) {D:DataW Unit} (f:∀x,V x->Maps.has D (lit x)=inB ks x) (c:IsMap D)
    {x:K} (a:V x) {d:DataW Unit}:∀y,V y->Maps.has (D.put (lit x) d) (lit y)=inB (ks++[x]) y:=λy b=>by
 by_cases e:y=x
 ·subst e;rw[has_put_same c (g _ a),gi_ (by simp)]
 ·rw[has_put_other (λh=>e (hi _ _ b a h)),f y b];unfold inB;simp[e]
def Ft_ (kt:TypeId) (V:K->Prop) (lit:K->Lit) (m:Nat) (ks:List K) (x:K) (w:World) (e:Ending) (w':World):Prop:=
 e = .returned (.bool (!inB ks x))/\a5_ kt V lit w' m (f2_ ks x)/\Turn (λb=>b=m) w w'
def Fu_ (ks:List K) (x:K) (w:World) (e:Ending) (w':World):Prop:=e = .returned (.bool (inB ks x))/\Below w.heap.size w w'
end
theorem Il_ (m:Nat) (ks:List ByteArray) (x:ByteArray) (a:VS x) (w:World) (h:a5_ 9 VS ji_ w m ks) :
    Calls Tryz.prog 148 #[.map (some m),.string x] w (Fu_ ks x w):=by
 obtain⟨D,h1,d⟩:=h;have b:=keyOf_string_mk Tryz.underlying9 a;have c:=q_ (show Maps.has D (.string x.data.toList)=inB ks x from d x a);generalize hr:inB ks x=r at c;have e:=q_ hr;clear d a hr;go_enter Tryz.func148,Tryz.ntmps148
 go_wp2_with (at_lookup;refine wpList_lookup_own_unit _ rfl _ _ 147 rfl 9 207 Cw_ Tryz.underlying147 (vq_ _) m _ D rfl h1 _ _ rfl b ?_;rw[c.o])
 go_ret;exact⟨by rw[e.o];rfl,by repeat (first | exact Below.refl _ _ | refine Below.alloc ?_ (by simp) _)⟩
theorem ze_ (m:Nat) (ks:List ByteArray) (x:ByteArray) (c:VS x) (t:ks.length<=100000000) (w:World) (h:a5_ 9 VS ji_ w m ks) :
    Calls Tryz.prog 88 #[.map (some m),.string x] w (Ft_ 9 VS ji_ m ks x w):=by
 have k:=q_ (Il_ m ks x c w h);have l:=q_ h;have j:=keyOf_string_mk Tryz.underlying9 c;have r:=q_ c;clear h c;by_cases a:x∈ks
 ·have g:=q_ a;have b:=q_ (gi_ a);clear a;go_enter Tryz.func88,Tryz.ntmps88
  go_wp2_with fail;refine k.o.mono ?_;rintro e s ⟨rfl,hb⟩;have d:=q_ hb;rw[b.o];clear hb;go_wp2_with fail;go_ret;refine⟨by rw[b.o];rfl,?_,?_⟩
  ·unfold f2_;rw[if_pos (gi_ g.o)];exact l.o.below d.o
  ·exact (Turn.of_below d.o).mono (λi hi h=>by omega)
 ·have g:=q_ a;have b:=q_ (th_ a);clear a;go_enter Tryz.func88,Tryz.ntmps88
  go_wp2_with fail;refine k.o.mono ?_;rintro e s ⟨rfl,hb⟩;have d:=q_ hb;rw[b.o];obtain⟨D,h1,n⟩:=l.o.below hb;have q:=q_ n;clear hb n;go_wp2_with (at_mapUpdate;refine wpList_mapUpdate_own _ rfl _ _ _ 147 rfl 9 207 Cw_ Tryz.underlying147 (unitElem (H:=Unit)) m _ D rfl h1 (by unfold maxLen;omega) _ _ _ rfl rfl j _ _ unitElem_mk ?_;intro w2 f p)
  go_ret;refine⟨by rw[b.o];rfl,?_,?_⟩
  ·unfold f2_;rw[if_neg (by rw[th_ g.o];decide)];exact⟨_,by rw[List.length_append];exact f,a5_.put t0_ n3_ q.o h1.isMap r.o⟩
  ·exact ((Turn.of_below d.o).mono (λi hi h=>by omega)).trans ((Turn.of_grown p).mono (λi _ h=>by injection h))
theorem ti_ (m:Nat) (ks:List Int) (x:Int) (a:VI x) (w:World) (h:a5_ 2 VI ix_ w m ks) :
    Calls Tryz.prog 92 #[.map (some m),.int .i64 x] w (Fu_ ks x w):=by
 obtain⟨D,h1,d⟩:=h;have b:=keyOf_int_mk Tryz.underlying2 a;have c:=q_ (show Maps.has D (.int .i64 x)=inB ks x from d x a);generalize hr:inB ks x=r at c;have e:=q_ hr;clear d a hr;go_enter Tryz.func92,Tryz.ntmps92
 go_wp2_with (at_lookup;refine wpList_lookup_own_unit _ rfl _ _ 145 rfl 2 207 tg_ Tryz.underlying145 (vq_ _) m _ D rfl h1 _ _ rfl b ?_;rw[c.o])
 go_ret;exact⟨by rw[e.o];rfl,by repeat (first | exact Below.refl _ _ | refine Below.alloc ?_ (by simp) _)⟩
theorem zf_ (m:Nat) (ks:List Int) (x:Int) (c:VI x) (t:ks.length<=100000000) (w:World) (h:a5_ 2 VI ix_ w m ks) :
    Calls Tryz.prog 89 #[.map (some m),.int .i64 x] w (Ft_ 2 VI ix_ m ks x w):=by
 have k:=q_ (ti_ m ks x c w h);have l:=q_ h;have j:=keyOf_int_mk Tryz.underlying2 c;have r:=q_ c;clear h c;by_cases a:x∈ks
 ·have g:=q_ a;have b:=q_ (gi_ a);clear a;go_enter Tryz.func89,Tryz.ntmps89
  go_wp2_with fail;refine k.o.mono ?_;rintro e s ⟨rfl,hb⟩;have d:=q_ hb;rw[b.o];clear hb;go_wp2_with fail;go_ret;refine⟨by rw[b.o];rfl,?_,?_⟩
  ·unfold f2_;rw[if_pos (gi_ g.o)];exact l.o.below d.o
  ·exact (Turn.of_below d.o).mono (λi hi h=>by omega)
 ·have g:=q_ a;have b:=q_ (th_ a);clear a;go_enter Tryz.func89,Tryz.ntmps89
  go_wp2_with fail;refine k.o.mono ?_;rintro e s ⟨rfl,hb⟩;have d:=q_ hb;rw[b.o];obtain⟨D,h1,n⟩:=l.o.below hb;have q:=q_ n;clear hb n;go_wp2_with (at_mapUpdate;refine wpList_mapUpdate_own _ rfl _ _ _ 145 rfl 2 207 tg_ Tryz.underlying145 (unitElem (H:=Unit)) m _ D rfl h1 (by unfold maxLen;omega) _ _ _ rfl rfl j _ _ unitElem_mk ?_;intro w2 f p)
  go_ret;refine⟨by rw[b.o];rfl,?_,?_⟩
  ·unfold f2_;rw[if_neg (by rw[th_ g.o];decide)];exact⟨_,by rw[List.length_append];exact f,a5_.put vo_ vp_ q.o h1.isMap r.o⟩
  ·exact ((Turn.of_below d.o).mono (λi hi h=>by omega)).trans ((Turn.of_grown p).mono (λi _ h=>by injection h))
end
section
open Go Go.RowKit
def ba_ (v:h_):Bool:=K_ v 0&&(v.kind==1 || (v.kind==2 || (v.kind==3 || v.kind==4)))
theorem pi_ (v:h_) (N:U_ v<=10000000000000000) (F:Nat->Prop) (u:Value) (w:World) (D:∀g,F g->g<w.heap.size) (E:VRd w F v u) (q:M_ w) :
    Calls Tryz.prog 149 #[u] w (z_ (ba_ v) w):=by
 obtain⟨A,I,P,C,O⟩:=E.inv;have d:=q_ (λo:Obj=>d3_ v N F u (w.alloc o) (λg q=>by have:=D g q;simp;omega) (E.under ((Below.refl _ _).alloc (Nat.le_refl _) _) D) (g_ q ((Below.refl _ _).alloc (Nat.le_refl _) _)));subst P;have a:=q_ (show ba_ v=(K_ v 0&&(v.kind==1 || (v.kind==2 || (v.kind==3 || v.kind==4)))) from rfl);obtain⟨s,R⟩:=a_ (Value.slice A v.list.length I);obtain⟨h,y⟩:=a_ (ba_ v);obtain⟨W,B⟩:=a_ (K_ v 0);rw[B.o]at d a;rw[y.o]at a ⊢;rw[R.o]at d ⊢;clear O C q B y
 cases v with
 | mk k b n t x l=>
 unfold c_ at d ⊢;simp only[h_.kind,h_.truth,h_.num,h_.text,h_.extra]at d a ⊢;clear E D;obtain⟨z,S⟩:=a_ w.heap.size;go_enter Tryz.func149,Tryz.ntmps149
 go_wp2_with fail;refine (d.o _).mono ?_;rintro e U ⟨rfl,hb⟩;have j:=q_ (((Below.refl w.heap.size w).alloc (Nat.le_refl _) (.cells #[.int .i64 k,.bool b,.int .i64 n,.string t,.string x,s] 39)).trans (hb.mono (by simp)));have r:=(hb.block w.heap.size (by simp)).trans (heap_alloc_new w (.cells #[.int .i64 k,.bool b,.int .i64 n,.string t,.string x,s] 39));have T:U.cell? ⟨w.heap.size,0,none⟩=some (.int .i64 k):=cell_of_heap r 0;clear hb r d;rw[S.o]at T ⊢
 cases W with
 | false=>
  have c:=q_ (show h=false from a.o);go_wp2_with fail;go_ret;exact⟨by rw[c.o];rfl,j.o⟩
 | true=>
  by_cases h1:k=1
  ·have c:=q_ (show h=true from by rw[a.o,h1];rfl);have M:(k==1)=true:=by rw[h1];rfl
   clear h1;go_wp2_with fail;go_ret;exact⟨by rw[c.o];rfl,j.o⟩
  ·have M:(k==1)=false:=by simp[h1]
   by_cases f:k=2
   ·have c:=q_ (show h=true from by rw[a.o,f];rfl);have G:(k==2)=true:=by rw[f];rfl
    clear h1 f;go_wp2_with fail;go_ret;exact⟨by rw[c.o];rfl,j.o⟩
   ·have G:(k==2)=false:=by simp[f]
    by_cases i:k=3
    ·have c:=q_ (show h=true from by rw[a.o,i];rfl);have L:(k==3)=true:=by rw[i];rfl
     clear h1 f i;go_wp2_with fail;go_ret;exact⟨by rw[c.o];rfl,j.o⟩
    ·have L:(k==3)=false:=by simp[i]
     by_cases p:k=4
     ·have c:=q_ (show h=true from by rw[a.o,p];rfl);have J:(k==4)=true:=by rw[p];rfl
      clear h1 f i p;go_wp2_with fail;go_ret;exact⟨by rw[c.o];rfl,j.o⟩
     ·have J:(k==4)=false:=by simp[p]
      have c:=q_ (show h=false from by rw[a.o,M,G,L,J];rfl);clear h1 f i p;go_wp2_with fail;go_ret;exact⟨by rw[c.o];rfl,j.o⟩
theorem vr_ (v:h_) (r:U_ v<=10000000000000000) (F:Nat->Prop) (u:Value) (w:World) (h:∀g,F g->g<w.heap.size) (f:VRd w F v u) (c:M_ w) :
    Calls Tryz.prog 151 #[u] w (z_ (!ba_ v) w):=by
 obtain⟨A,j,p,i,z⟩:=f.inv;have a:=q_ (λo:Obj=>pi_ v r F u (w.alloc o) (λg c=>by have:=h g c;simp;omega) (f.under ((Below.refl _ _).alloc (Nat.le_refl _) _) h) (g_ c ((Below.refl _ _).alloc (Nat.le_refl _) _)));subst p;obtain⟨s,q⟩:=a_ (Value.slice A v.list.length j);obtain⟨C,d⟩:=a_ (ba_ v);rw[d.o]at a;rw[d.o];rw[q.o]at a ⊢;clear z i c
 cases v with
 | mk k b n t x l=>
 unfold c_ at a ⊢;simp only[h_.kind,h_.truth,h_.num,h_.text,h_.extra]at a ⊢;clear f h;go_enter Tryz.func151,Tryz.ntmps151
 go_wp2_with fail;refine (a.o _).mono ?_;rintro e B ⟨rfl,hb⟩;have y:=q_ (((Below.refl w.heap.size w).alloc (Nat.le_refl _) (.cells #[.int .i64 k,.bool b,.int .i64 n,.string t,.string x,s] 39)).trans (hb.mono (by simp)));clear hb;go_wp2_with fail;go_ret;exact⟨rfl,y.o⟩
def L8_ (l:List h_) (p:h_->Bool) (w:World) (e:Ending) (w':World):Prop:=∃r:Int,e = .returned (.int .i64 r)/\(decide (0<=r)=l.any p)/\Below w.heap.size w w'
theorem Fv_ (l:List h_) (p:h_->Bool) (F:Nat->Prop) (A:Option Addr) (n J:Nat) (w:World) (L:∀g,F g->g<w.heap.size) (C:LRd w F l A n) (hn:n<=1000000000)
    (y:∀(x:h_) (_:x∈l) (u:Value) (W:World),Below w.heap.size w W->VRd W F x u->Calls Tryz.prog 151 #[u] W (z_ (p x) W)) :
    Calls Tryz.prog 220 #[.slice A n J,.func (.func 151) #[] #[]] w (L8_ l p w):=by
 have U:=q_ C;have S:=q_ L;have I:=q_ y;have z:=q_ C.1;clear C L y;go_enter Tryz.func220,Tryz.ntmps220
 go_wp2_with fail;go_loopw [8] (λE wr=>∃k:Nat,k<=n/\E = .int .i64 (k:Nat)/\Q_ (((l.take k).any p)=false)/\Q_ (Below w.heap.size w wr)) (λE _=>n-(intOf E).toNat)
 case atStart=>exact⟨0,by omega,rfl,q_ (by simp),q_ (Below.refl _ _)⟩
 case round=>
  obtain⟨k,hk,rfl,i,c⟩:=hrel;by_cases G:k<n
  ·obtain⟨x,j⟩:∃x,l[k]?=some x:=⟨l[k]'(by rw[<-z.o];exact G),List.getElem?_eq_getElem _⟩;have Y:=q_ (U.o.under c.o S.o);obtain⟨ad,s,rfl,O,⟨B,Z,rfl,P,N⟩,M,c0,c1,c2,c3,c4,c5⟩:=Y.o.cellsAt j;have R:=q_ j;have d:=q_ (List.mem_of_getElem? j);have f:=q_ (I.o x d.o _ wr c.o M);have b:=q_ (λ(h:p x=false)=>show (l.take (k+1)).any p=false from by rw[f_ R.o,List.any_append,i.o];simp[h]);have a:=q_ (λ(h:p x=true)=>show l.any p=true from by rw[List.any_eq_true];exact⟨x,d.o,h⟩);obtain⟨r,X⟩:=a_ (p x);rw[X.o]at f b a;unfold c_ at f;have e1:(0:Int)<=k:=by omega
   have e2:(k:Int)<n:=by omega
   clear j N M O;go_wp2_with fail;refine f.o.mono ?_;rintro e w2 ⟨rfl,v⟩;have t:=q_ (c.o.trans (v.mono c.o.size));clear v
   cases r with
   | false=>
    have T:=q_ (b.o rfl);have w1:IntKind.i64.wrap ((k:Int)+1)=(k:Int)+1:=IntWalk.i64_in _ (by omega);go_wp2_with fail;go_roundw
    case rel=>exact⟨k+1,by omega,by go_num,T,t⟩
    case measure=>simp[intOf];omega
   | true=>
    have D:=q_ (a.o rfl);go_wp2_with fail;go_ret;exact⟨(k:Int),rfl,by rw[D.o];simp,t.o⟩
  ·have q:k=n:=by omega
   have D:=q_ (show l.any p=false from by have:=i.o;rw[List.take_of_length_le (by rw[q,z.o];exact Nat.le_refl _)]at this;exact this);subst q;go_wp2_with fail;go_ret;exact⟨-1,rfl,by rw[D.o];simp,c.o⟩
theorem Bt_ (l:List h_) (t:af_ l<=1000000000) (F:Nat->Prop) (A:Option Addr) (n c:Nat) (w:World) (f:∀g,F g->g<w.heap.size) (d:LRd w F l A n) (b:M_ w) :
    Calls Tryz.prog 150 #[.slice A n c,.func (.func 151) #[] #[]] w (z_ (l.any λv=>!ba_ v) w):=by
 have z:=dd_ l;have j:=q_ (Fv_ l (λv=>!ba_ v) F A n c w f d (by rw[d.1];omega) (λx k u W h a=>vr_ x (by have:=fc_ k;omega) F u W (λg b=>Nat.lt_of_lt_of_le (f g b) h.size) a (g_ b h)));obtain⟨r,i⟩:=a_ (l.any λv=>!ba_ v);rw[i.o];clear d f b;go_enter Tryz.func150,Tryz.ntmps150
 go_wp2_with fail;refine j.o.mono ?_;rintro e y ⟨q,rfl,a,hb⟩;have s:=q_ a;have p:=q_ hb;clear a hb;go_wp2_with fail;go_ret;exact⟨by rw[<-i.o,<-s.o];rfl,p.o⟩
end
section
open Go Go.RowKit Go.Maps Go.WideMaps
theorem tj_ {w:World} {F:Nat->Prop} {l:List C_} {A:Option Addr} {n:Nat} (h:SRd 7 PaR w F l A n) {i:Nat} {x:C_} (k:l[i]?=some x) :
    ∃ad s,A=some ad/\F ad.block/\VRd w F x.v (.agg (c_ x.v s))/\w.cell? (ad.add (i*7))=some (.string x.key) /\
     w.cell? ⟨(ad.add (i*7)).block,(ad.add (i*7)).off+1,none⟩=some (.int .i64 x.v.kind)/\w.cell? ⟨(ad.add (i*7)).block,(ad.add (i*7)).off+2,none⟩=some (.bool x.v.truth)/\w.cell? ⟨(ad.add (i*7)).block,(ad.add (i*7)).off+3,none⟩=some (.int .i64 x.v.num) /\
     w.cell? ⟨(ad.add (i*7)).block,(ad.add (i*7)).off+4,none⟩=some (.string x.v.text)/\w.cell? ⟨(ad.add (i*7)).block,(ad.add (i*7)).off+5,none⟩=some (.string x.v.extra)/\w.cell? ⟨(ad.add (i*7)).block,(ad.add (i*7)).off+6,none⟩=some s:=by
 obtain⟨ad,c,e,p,_,a,s,rfl,o⟩:=h.at_ k;have q:=a 0 (by omega);have d:=a 1 (by omega);have g:=a 2 (by omega);have j:=a 3 (by omega);have c4:=a 4 (by omega);have b:=a 5 (by omega);have f:=a 6 (by omega);rw[<-add_of_add]at d g j c4 b f;exact⟨ad,s,e,p,o,q,d,g,j,c4,b,f⟩
def a0_ (v:h_):Bool:=if v.kind=5 then K_ v 0&&v.list.all ba_ else ba_ v
def a1_:List ByteArray->List C_->Bool
 | _,[]=>true
 | ks,p::r=>(am_ p.key&&(!inB ks p.key&&a0_ p.v))&&a1_ (ks++[p.key]) r
def ak_ (l:List C_):Bool:=a1_ [] l&&decide (l.length<=65536)
def vs_ (p:C_):Prop:=p.key.size<=2000000/\U_ p.v<=2000000
theorem vt_ (l:List C_):∀(k:Nat) (ks:List ByteArray),a1_ ks l=(a1_ ks (l.take k)&&a1_ (ks++(l.take k).map C_.key) (l.drop k)):=by
 induction l with
 | nil=>intro k ks;simp[a1_]
 | cons p r a=>
  intro k ks
  cases k with
  | zero=>simp[a1_]
  | succ k=>
   simp only[List.take_succ_cons,List.drop_succ_cons,a1_,List.map_cons];rw[a k (ks++[p.key])];simp only[Bool.and_assoc,List.append_assoc,List.singleton_append]
theorem vu_ (l:List C_) (p:C_):∀ks:List ByteArray,a1_ ks (l++[p])=(a1_ ks l&&(am_ p.key&&(!inB (ks++l.map C_.key) p.key&&a0_ p.v))):=by
 induction l with
 | nil=>intro ks;simp[a1_]
 | cons q r a=>
  intro ks;simp only[List.cons_append,a1_,List.map_cons,a,Bool.and_assoc,List.append_assoc];simp
theorem mi_ {a : Type} {l:List a} {k:Nat} {x:a} (h:l[k]?=some x):l.drop k=x::l.drop (k+1):=by obtain⟨h1,rfl⟩:=List.getElem?_eq_some_iff.1 h;exact List.drop_eq_getElem_cons h1
structure Fw_ (w:World) (m:Nat) (l:List C_) (k:Nat) (wr:World):Prop where
 below:Below w.heap.size w wr
 loc:w.heap.size<=m
 set:a5_ 9 VS ji_ wr m ((l.take k).map C_.key)
 ok:a1_ [] (l.take k)=true
theorem Fx_ {l:List C_} {k:Nat} {x:C_} (a:l[k]?=some x) (h:(am_ x.key&&(!inB ((l.take k).map C_.key) x.key&&a0_ x.v))=false):ak_ l=false:=by unfold ak_;rw[vt_ l k [],mi_ a,a1_,List.nil_append,h];simp
theorem Bu_ {l:List C_} {k:Nat} {x:C_} (b:l[k]?=some x) (h:(am_ x.key&&(!inB ((l.take k).map C_.key) x.key&&a0_ x.v))=true) (a:a1_ [] (l.take k)=true):a1_ [] (l.take (k+1))=true:=by rw[f_ b,vu_,a,List.nil_append,h];rfl
theorem x3_ {v:h_} (h:v.kind=5):a0_ v=(K_ v 0 && !(v.list.any λx=>!ba_ x)):=by
 unfold a0_;rw[if_pos h];congr 1
 induction v.list with
 | nil=>rfl
 | cons a r b=>rw[List.all_cons,List.any_cons,Bool.not_or,Bool.not_not,b]
theorem Bv_ {v:h_} (h:v.kind≠5):a0_ v=ba_ v:=by unfold a0_;rw[if_neg h]
theorem rj_ (l:List C_) (Z:∀p,p∈l->vs_ p) (am:l.length<=2000000) (F:Nat->Prop) (A:Option Addr) (n ap:Nat) (w:World) (hF:∀g,F g->g<w.heap.size) (O:SRd 7 PaR w F l A n) (R:M_ w) :
    Calls Tryz.prog 90 #[.slice A n ap] w (z_ (ak_ l) w):=by
 have b7:=@run_makeMap Tryz.prog;have HL:=q_ O;have HF:=q_ hF;have HG:=q_ R;have aj:=q_ Z;have a4:=q_ O.1;have b6:n<=2000000:=by rw[O.1];exact am
 clear O hF R Z;obtain⟨m,Hm⟩:=a_ w.heap.size;have HP:=q_ (show ak_ l=(a1_ [] l&&decide (l.length<=65536)) from rfl);obtain⟨pb,ah⟩:=a_ (ak_ l);rw[ah.o]at HP ⊢;have b1:=q_ (λ(k:Nat) (x:C_) (S:l[k]?=some x) (h:(am_ x.key&&(!inB ((l.take k).map C_.key) x.key&&a0_ x.v))=false)=>ah.o.symm.trans (Fx_ S h));go_enter Tryz.func90,Tryz.ntmps90
 go_wp2_with fail;rw[Hm.o];go_loopw [10] (λa7 wr=>∃k:Nat,k<=n/\a7 = .int .i64 (k:Nat)/\Q_ (Fw_ w m l k wr)) (λa7 _=>n-(intOf a7).toNat)
 case atStart=>
  refine⟨0,by omega,rfl,q_ ⟨(Below.refl _ _).alloc (Nat.le_refl _) _,by rw[<-Hm.o];exact Nat.le_refl _,?_,rfl⟩⟩;rw[<-Hm.o];exact a5_.made _ _ _ _
 case round=>
  obtain⟨k,hk,rfl,d⟩:=hrel;by_cases aw:k<n
  ·obtain⟨x,S⟩:∃x,l[k]?=some x:=⟨l[k]'(by rw[<-a4.o];exact aw),List.getElem?_eq_getElem _⟩;have HX:=q_ S;have I:=q_ (aj.o x (List.mem_of_getElem? S));obtain⟨ad,s,rfl,b3,hv,c0,c1,c2,c3,c4,c5,c6⟩:=tj_ (HL.o.under PaR.good d.o.below HF.o) S;obtain⟨B,cb,C,_,_⟩:=hv.inv;injection C with C;obtain rfl:s = .slice B x.v.list.length cb:=by have:=congrArg (λa:Array Value=>a[5]?) C;simpa [c_] using this
   have HV:=q_ hv;clear S b3 hv C;obtain⟨P,b2⟩:=a_ x.v.list.length;rw[b2.o]at c6 HV;obtain⟨z,Hz⟩:=a_ wr.heap.size;obtain⟨w5,N⟩:=a_ (wr.alloc (.cells #[.string x.key,.int .i64 x.v.kind,.bool x.v.truth,.int .i64 x.v.num,.string x.v.text,.string x.v.extra,.slice B P cb] 69));have L:=q_ (show Below wr.heap.size wr w5 from by rw[<-N.o];exact (Below.refl _ _).alloc (Nat.le_refl _) _);have c:=q_ (show w5.heap[z]?=some (.cells #[.string x.key,.int .i64 x.v.kind,.bool x.v.truth,.int .i64 x.v.num,.string x.v.text,.string x.v.extra,.slice B P cb] 69 (0,0)) from by rw[<-N.o,<-Hz.o];exact heap_alloc_new wr _);have a2:=q_ (show w5.heap.size=z+1 from by rw[<-N.o,<-Hz.o];simp);have e1:(0:Int)<=k:=by omega
   have e2:(k:Int)<n:=by omega
   go_upto_region 5 with fail;rw[N.o,Hz.o];have D:w.heap.size<=wr.heap.size:=d.o.below.size;have a1:=q_ (λ(W:World) (hW:Below wr.heap.size wr W) (g:Nat) (R:F g)=>show g<W.heap.size from Nat.lt_of_lt_of_le (HF.o g R) (Nat.le_trans D hW.size));have a3:=q_ (λ(g:Nat) (R:F g)=>show g<wr.heap.size from Nat.lt_of_lt_of_le (HF.o g R) D);have T:=q_ (g_ HG.o d.o.below);have a0:=q_ (pi_ x.v (by have:=I.o.2;omega) F _ w5 (a1.o w5 L.o) (HV.o.under L.o a3.o) (g_ T.o L.o));obtain⟨sc,ag⟩:=a_ (ba_ x.v);rw[ag.o]at a0;unfold c_ at a0;have d1:w5.cell? ⟨z,1,none⟩=some (.int .i64 x.v.kind):=cell_of_heap c.o 1;have d2:w5.cell? ⟨z,2,none⟩=some (.bool x.v.truth):=cell_of_heap c.o 2;have d3:w5.cell? ⟨z,3,none⟩=some (.int .i64 x.v.num):=cell_of_heap c.o 3;have d4:w5.cell? ⟨z,4,none⟩=some (.string x.v.text):=cell_of_heap c.o 4;have d5:w5.cell? ⟨z,5,none⟩=some (.string x.v.extra):=cell_of_heap c.o 5;have d6:w5.cell? ⟨z,6,none⟩=some (.slice B P cb):=cell_of_heap c.o 6;clear c0 c1 c2 c3 c4 c5 c6;go_wp2_with fail;refine a0.o.mono ?_;rintro e w6 ⟨rfl,M⟩;have f:=q_ (L.o.trans (M.mono (by rw[a2.o,Hz.o];omega)));have b:=q_ ((M.block z (by rw[a2.o];omega)).trans c.o);have ac:=q_ (show z<w6.heap.size from Nat.lt_of_lt_of_le (by rw[a2.o];omega) M.size);clear M d1 d2 d3 d4 d5 d6;have d1:w6.cell? ⟨z,1,none⟩=some (.int .i64 x.v.kind):=cell_of_heap b.o 1;go_upto_if 20 with fail;go_cut [6] (λs6 wx=>s6 = .bool (a0_ x.v)/\Q_ (Below w6.heap.size w6 wx))
   case first=>
    by_cases u:x.v.kind=5
    ·have q5:(x.v.kind==5)=true:=by rw[u];rfl
     have q:=q_ (x3_ u);have U:=q_ (d3_ x.v (by have:=I.o.2;omega) F _ w6 (a1.o w6 f.o) (HV.o.under f.o a3.o) (g_ T.o f.o));obtain⟨mv,aq⟩:=a_ (K_ x.v 0);rw[aq.o]at U q;unfold c_ at U;have d2:w6.cell? ⟨z,2,none⟩=some (.bool x.v.truth):=cell_of_heap b.o 2;have d3:w6.cell? ⟨z,3,none⟩=some (.int .i64 x.v.num):=cell_of_heap b.o 3;have d4:w6.cell? ⟨z,4,none⟩=some (.string x.v.text):=cell_of_heap b.o 4;have d5:w6.cell? ⟨z,5,none⟩=some (.string x.v.extra):=cell_of_heap b.o 5;have d6:w6.cell? ⟨z,6,none⟩=some (.slice B P cb):=cell_of_heap b.o 6;clear u;go_wp2_with fail;refine U.o.mono ?_;rintro e X ⟨rfl,J⟩;have Y:=q_ J;have G:=q_ (f.o.trans (J.mono (by have:=f.o.size;omega)));have d6:X.cell? ⟨z,6,none⟩=some (.slice B P cb):=cell_of_heap ((J.block z ac.o).trans b.o) 6;clear J
     cases mv with
     | false=>
      go_wp2_with fail;go_meet;exact⟨by rw[q.o];rfl,Y⟩
     | true=>
      have ab:=q_ (show Calls Tryz.prog 150 #[.slice B P cb,.func (.func 151) #[] #[]] X (z_ (x.v.list.any λv=>!ba_ v) X) from by obtain⟨B',b5,C,_,O⟩:=(HV.o.under G.o a3.o).inv;injection C with C;have u:=congrArg (λa:Array Value=>a[5]?) C;simp[c_]at u;obtain⟨rfl,rfl,rfl⟩:=u;exact Bt_ x.v.list (by have:=I.o.2;have:=fj_ x.v;omega) F _ _ _ X (a1.o X G.o) O (g_ T.o G.o));obtain⟨av,au⟩:=a_ (x.v.list.any λv=>!ba_ v);rw[au.o]at ab q;go_wp2_with fail;refine ab.o.mono ?_;rintro e w8 ⟨rfl,ai⟩;have az:=q_ (Y.o.trans (ai.mono Y.o.size));clear ai;go_wp2_with fail;go_meet;exact⟨by rw[q.o];rfl,az⟩
    ·have q5:(x.v.kind==5)=false:=by simp[u]
     have q:=q_ (Bv_ u);clear u;go_wp2_with fail;go_meet;exact⟨by rw[q.o,ag.o],q_ (Below.refl _ _)⟩
   case rest=>
    obtain⟨h6,a9⟩:=hcut;subst h6;obtain⟨pv,aa⟩:=a_ (a0_ x.v);rw[aa.o];have ae:=q_ (f.o.trans (a9.o.mono (by have:=f.o.size;omega)));have r:=q_ (show Fw_ w m l k wc from ⟨d.o.below.trans (ae.o.mono D),d.o.loc,d.o.set.below ae.o,d.o.ok⟩);have d0:wc.cell? ⟨z,0,none⟩=some (.string x.key):=cell_of_heap ((a9.o.block z ac.o).trans b.o) 0;have af:=q_ (λW=>tf_ x.key W);have t:=q_ (b1.o k x HX.o);have y:=q_ (λh=>Bu_ HX.o h d.o.ok);have ao:=q_ (ze_ m ((l.take k).map C_.key) x.key (by have:=I.o.1;unfold VS maxLen;omega) (by simp;omega) wc r.o.set);rw[aa.o]at t y;obtain⟨tb,b0⟩:=a_ (am_ x.key);rw[b0.o]at af t y;obtain⟨ib,a5⟩:=a_ (inB ((l.take k).map C_.key) x.key);rw[a5.o]at t y;clear d1;go_wp2_with fail;refine (af.o _).mono ?_;rintro e w9 ⟨rfl,ar⟩;subst ar
    cases tb with
    | false=>
     have j:=q_ (t.o rfl);go_wp2_with fail;go_ret;exact⟨by rw[j.o];rfl,r.o.below⟩
    | true=>
     go_wp2_with fail;refine ao.o.mono ?_;rintro e b4 ⟨rfl,a8,a6⟩;rw[a5.o];have E:=q_ (r.o.below.trans (a6.below (B:=w.heap.size) (λi _ hi=>by rw[hi];exact r.o.loc) r.o.below.size));have ak:=q_ a8;clear a8 a6
     cases ib with
     | true=>
      have j:=q_ (t.o rfl);go_wp2_with fail;go_ret;exact⟨by rw[j.o];rfl,E.o⟩
     | false=>
      cases pv with
      | false=>
       have j:=q_ (t.o rfl);go_wp2_with fail;go_ret;exact⟨by rw[j.o];rfl,E.o⟩
      | true=>
       have HY:=q_ (y.o rfl);have w1:IntKind.i64.wrap ((k:Int)+1)=(k:Int)+1:=IntWalk.i64_in _ (by omega);go_wp2_with fail;go_roundw
       case rel=>
        refine⟨k+1,by omega,by go_num,q_ ⟨E.o,r.o.loc,?_,HY.o⟩⟩;have h:=ak.o;unfold f2_ at h;rw[a5.o,if_neg (by decide)]at h;rw[f_ HX.o,List.map_append];exact h
       case measure=>simp[intOf];omega
  ·have ay:k=n:=by omega
   subst ay;have j:=q_ (show pb=decide (k<=65536) from by have h:=d.o.ok;rw[List.take_of_length_le (by rw[a4.o];exact Nat.le_refl _)]at h;rw[HP.o,h,a4.o];rfl);by_cases h6:k<=65536
   ·have e6:decide ((k:Int)<=65536)=true:=decide_eq_true (by omega);rw[decide_eq_true h6]at j;go_wp2_with fail;go_ret;exact⟨by rw[j.o];rfl,d.o.below⟩
   ·have e6:decide ((k:Int)<=65536)=false:=decide_eq_false (by omega);rw[decide_eq_false h6]at j;go_wp2_with fail;go_ret;exact⟨by rw[j.o];rfl,d.o.below⟩
def a2_:List ByteArray->List ByteArray->Bool
 | _,[]=>true
 | ks,s::r=>(am_ s && !inB ks s)&&a2_ (ks++[s]) r
theorem x4_ (l:List ByteArray):∀(k:Nat) (ks:List ByteArray),a2_ ks l=(a2_ ks (l.take k)&&a2_ (ks++l.take k) (l.drop k)):=by
 induction l with
 | nil=>intro k ks;simp[a2_]
 | cons p r a=>
  intro k ks
  cases k with
  | zero=>simp[a2_]
  | succ k=>
   simp only[List.take_succ_cons,List.drop_succ_cons,a2_];rw[a k (ks++[p])];simp only[Bool.and_assoc,List.append_assoc,List.singleton_append]
theorem x5_ (l:List ByteArray) (p:ByteArray):∀ks:List ByteArray,a2_ ks (l++[p])=(a2_ ks l&&(am_ p && !inB (ks++l) p)):=by
 induction l with
 | nil=>intro ks;simp[a2_]
 | cons q r a=>
  intro ks;simp only[List.cons_append,a2_,a,Bool.and_assoc,List.append_assoc];simp
theorem Im_ {l:List ByteArray} {k:Nat} {x:ByteArray} (a:l[k]?=some x) (h:(am_ x && !inB (l.take k) x)=false):a2_ [] l=false:=by rw[x4_ l k [],mi_ a,a2_,List.nil_append,h];simp
theorem Fy_ {l:List ByteArray} {k:Nat} {x:ByteArray} (b:l[k]?=some x) (h:(am_ x && !inB (l.take k) x)=true) (a:a2_ [] (l.take k)=true):a2_ [] (l.take (k+1))=true:=by rw[f_ b,x5_,a,List.nil_append,h];rfl
def Ks_ (m:Nat) (ks:List ByteArray) (x:ByteArray) (w:World) (e:Ending) (w':World):Prop:=
 e = .returned (.bool (!(am_ x && !inB ks x)))/\((am_ x && !inB ks x)=true->a5_ 9 VS ji_ w' m (ks++[x]))/\Turn (λb=>b=m) w w'
theorem Fz_ (ca:Addr) (m:Nat) (ks:List ByteArray) (x:ByteArray) (i:VS x) (q:ks.length<=100000000) (w:World) (t:w.cell? ca=some (.map (some m))) (j:a5_ 9 VS ji_ w m ks) :
    Calls Tryz.prog 86 #[.string x,.pointer (some ca)] w (Ks_ m ks x w):=by
 have d:=q_ (λW=>tf_ x W);have g:=q_ (ze_ m ks x i q w j);clear i j;unfold Ks_;obtain⟨r,l⟩:=a_ (am_ x);obtain⟨p,c⟩:=a_ (inB ks x);rw[l.o]at d ⊢;rw[c.o];go_enter Tryz.func86,Tryz.ntmps86
 go_wp2_with fail;refine (d.o _).mono ?_;rintro e u ⟨rfl,n⟩;subst n
 cases r with
 | false=>
  go_wp2_with fail;go_ret;exact⟨rfl,λh=>by simp at h,Turn.refl _ _⟩
 | true=>
  go_wp2_with fail;refine g.o.mono ?_;rintro e s ⟨rfl,b,a⟩;rw[c.o];have f:=q_ b;have k:=q_ a;clear b a
  cases p with
  | true=>
   go_wp2_with fail;go_ret;exact⟨rfl,λh=>by simp at h,k.o⟩
  | false=>
   go_wp2_with fail;go_ret;refine⟨rfl,λ_=>?_,k.o⟩;have h:=f.o;unfold f2_ at h;rw[c.o,if_neg (by decide)]at h;exact h
theorem Kt_ {w:World} {F:Nat->Prop} {l:List ByteArray} {A:Option Addr} {n:Nat} (h:SRd 1 TxR w F l A n) {i:Nat} {x:ByteArray} (d:l[i]?=some x) :
    ∃ad,A=some ad/\F ad.block/\w.cell? (ad.add i)=some (.string x):=by
 obtain⟨ad,c,e,g,_,f,a⟩:=h.at_ d;have b:=f 0 (by omega);rw[a]at b;exact⟨ad,e,g,by simpa using b⟩
def Ku_ (m:Nat) (l:List ByteArray) (w:World) (e:Ending) (w':World):Prop:=∃r:Int,e = .returned (.int .i64 r)/\(decide (0<=r) = !a2_ [] l)/\Turn (λb=>b=m) w w'
structure L9_ (w:World) (m:Nat) (l:List ByteArray) (k:Nat) (wr:World):Prop where
 turn:Turn (λb=>b=m) w wr
 set:a5_ 9 VS ji_ wr m (l.take k)
 ok:a2_ [] (l.take k)=true
theorem F0_ (l:List ByteArray) (j:∀s,s∈l->VS s) (ca:Addr) (m:Nat) (F:Nat->Prop) (A:Option Addr) (n O:Nat) (w:World) (P:∀g,F g->g<w.heap.size/\g≠m) (y:SRd 1 TxR w F l A n) (Z:n<=10000000)
    (R:w.cell? ca=some (.map (some m))) (t:ca.block<w.heap.size/\ca.block≠m) (G:a5_ 9 VS ji_ w m []) :
    Calls Tryz.prog 147 #[.slice A n O,.func (.func 86) #[] #[.pointer (some ca)]] w (Ku_ m l w):=by
 have X:=q_ y;have M:=q_ P;have B:=q_ j;have W:=q_ R;have U:=q_ G;have v:=q_ y.1;clear y P j R G;obtain⟨lb,i⟩:=a_ (a2_ [] l);have I:=q_ (λ(k:Nat) (x:ByteArray) (a:l[k]?=some x) (h:(am_ x && !inB (l.take k) x)=false)=>i.o.symm.trans (Im_ a h));unfold Ku_;rw[i.o];go_enter Tryz.func147,Tryz.ntmps147
 go_wp2_with fail;go_loopw [8] (λD wr=>∃k:Nat,k<=n/\D = .int .i64 (k:Nat)/\Q_ (L9_ w m l k wr)) (λD _=>n-(intOf D).toNat)
 case atStart=>exact⟨0,by omega,rfl,q_ ⟨Turn.refl _ _,U.o,rfl⟩⟩
 case round=>
  obtain⟨k,hk,rfl,b⟩:=hrel;by_cases E:k<n
  ·obtain⟨x,a⟩:∃x,l[k]?=some x:=⟨l[k]'(by rw[<-v.o];exact E),List.getElem?_eq_getElem _⟩;have S:=q_ a;obtain⟨ad,rfl,_,c0⟩:=Kt_ (X.o.keep TxR.good (w':=wr) (λp L=>b.o.turn.cell (M.o _ L).1 (M.o _ L).2)) a;have f:=q_ (Fz_ ca m (l.take k) x (B.o x (List.mem_of_getElem? a)) (by simp;omega) wr ((b.o.turn.cell t.1 t.2).trans W.o) b.o.set);have u:=q_ (I.o k x a);have c:=q_ (λh=>Fy_ a h b.o.ok);unfold Ks_ at f;obtain⟨r,Y⟩:=a_ (am_ x && !inB (l.take k) x);rw[Y.o]at f u c;have e1:(0:Int)<=k:=by omega
   have e2:(k:Int)<n:=by omega
   clear a;go_wp2_with fail;refine f.o.mono ?_;rintro e w2 ⟨rfl,d,N⟩;have J:=q_ (b.o.turn.trans N);have z:=q_ d;clear d N
   cases r with
   | true=>
    have T:=q_ (c.o rfl);have w1:IntKind.i64.wrap ((k:Int)+1)=(k:Int)+1:=IntWalk.i64_in _ (by omega);go_wp2_with fail;go_roundw
    case rel=>exact⟨k+1,by omega,by go_num,q_ ⟨J.o,by rw[f_ S.o];exact z.o (by trivial),T.o⟩⟩
    case measure=>simp[intOf];omega
   | false=>
    have C:=q_ (u.o rfl);go_wp2_with fail;go_ret;exact⟨(k:Int),rfl,by rw[C.o];simp,J.o⟩
  ·have q:k=n:=by omega
   have C:=q_ (show lb=true from by have h:=b.o.ok;rw[List.take_of_length_le (by rw[q,v.o];exact Nat.le_refl _),i.o]at h;exact h);subst q;go_wp2_with fail;go_ret;exact⟨-1,rfl,by rw[C.o];simp,b.o.turn⟩
def x6_ (m:Nat) (l:List ByteArray) (w:World) (e:Ending) (w':World):Prop:=e = .returned (.bool (!a2_ [] l))/\Turn (λb=>b=m) w w'
theorem Bw_ (l:List ByteArray) (a:∀s,s∈l->VS s) (ca:Addr) (m:Nat) (F:Nat->Prop) (A:Option Addr) (n b:Nat) (w:World) (k:∀g,F g->g<w.heap.size/\g≠m) (j:SRd 1 TxR w F l A n) (u:n<=10000000)
    (h:w.cell? ca=some (.map (some m))) (c:ca.block<w.heap.size/\ca.block≠m) (f:a5_ 9 VS ji_ w m []) :
    Calls Tryz.prog 85 #[.slice A n b,.func (.func 86) #[] #[.pointer (some ca)]] w (x6_ m l w):=by
 have d:=q_ (F0_ l a ca m F A n b w k j u h c f);clear j k a f h c;unfold Ku_ at d;unfold x6_;obtain⟨lb,p⟩:=a_ (a2_ [] l);rw[p.o]at d ⊢;go_enter Tryz.func85,Tryz.ntmps85
 go_wp2_with fail;refine d.o.mono ?_;rintro e v ⟨q,rfl,i,hb⟩;have r:=q_ i;have t:=q_ hb;clear i hb;go_wp2_with fail;go_ret;exact⟨by rw[<-r.o];rfl,t.o⟩
end
end Go.Proofs.YtefhfadjajcmkaaGreatDoor
