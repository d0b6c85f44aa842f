/- Which labels may be. -/
import Derived.Test.YtefhfadjajcmkaaGreatDoorJG
set_option linter.unusedVariables false
set_option linter.unusedSimpArgs false
set_option maxRecDepth 100000
set_option maxHeartbeats 64000000
namespace Go.Proofs.YtefhfadjajcmkaaGreatDoor
open Go.Lib (cell_of_heap)
section
open Go Go.RowKit Go.Maps
theorem hs_ (p:C_) (s:Value):∀i,i<6->(cq_ p s)[1+i]?=(c_ p.v s)[i]?:=by
 intro i hi;rcases i with _ | _ | _ | _ | _ | _ | i
 ·rfl
 ·rfl
 ·rfl
 ·rfl
 ·rfl
 ·rfl
 ·omega
theorem B1_ (p r:C_) (E:p.v.list=[]) (A B:Option Addr) (ca cb:Nat) (w:World) :
    Calls Tryz.prog 219 #[.agg (cq_ p (.slice A 0 ca)),.agg (cq_ r (.slice B r.v.list.length cb))] w (u_ (decide (p.key=r.key)&&bh_ p.v r.v) w):=by
 obtain⟨c,x⟩:=o5_ p (.slice A 0 ca);obtain⟨d,C⟩:=o5_ r (.slice B r.v.list.length cb);rw[x.o,C.o];obtain⟨z,g⟩:=a_ w.heap.size;obtain⟨w2,a⟩:=a_ ((w.alloc (.cells c 69)).alloc (.cells d 69));have b:=q_ (show Below w.heap.size w w2 from by rw[<-a.o];exact L_ w _ _);have l:=q_ (show w2.heap[z]?=some (.cells c 69 (0,0)) from by rw[<-a.o,<-g.o];exact heap_alloc2_old w _ _);have j:=q_ (show w2.heap[z+1]?=some (.cells d 69 (0,0)) from by rw[<-a.o,<-g.o];exact heap_alloc2_new w _ _);obtain⟨D,k⟩:=a_ p.key;obtain⟨F,n⟩:=a_ r.key;have P:w2.cell? ⟨z,0,none⟩=some (.string D):=(cell_of_heap l.o 0).trans (by rw[<-x.o,<-k.o];rfl);have R:w2.cell? ⟨z+1,0,none⟩=some (.string F):=(cell_of_heap j.o 0).trans (by rw[<-C.o,<-n.o];rfl);obtain⟨u,h⟩:=H_ p.v (.slice A 0 ca);obtain⟨v,f⟩:=H_ r.v (.slice B r.v.list.length cb);have I:=q_ (am_.trans (congrArg some h.size.symm));have L:=q_ (am_.trans (congrArg some f.size.symm));have M:=q_ (λi (hi:i<u.size)=>(show w2.cell? ((⟨z,1,none⟩:Addr).add i)=u[i]? from by rw[Addr.add_mid,cell_of_row w2 z (1+i) c _ _ l.o,<-h.o,<-x.o];exact hs_ p _ i (by rwa [h.size]at hi)));have N:=q_ (λi (hi:i<v.size)=>(show w2.cell? ((⟨z+1,1,none⟩:Addr).add i)=v[i]? from by rw[Addr.add_mid,cell_of_row w2 (z+1) (1+i) d _ _ j.o,<-f.o,<-C.o];exact hs_ r _ i (by rwa [f.size]at hi)));have y:=λW:World=>lp_ p.v r.v E A B ca cb W;rw[h.o,f.o]at y;have q:=q_ y;clear y E;obtain⟨t,J⟩:=a_ (bh_ p.v r.v);rw[J.o]at q ⊢;unfold u_ at q ⊢;rw[k.o,n.o];by_cases s:D=F
 ·subst s;rw[decide_eq_true rfl,Bool.true_and];go_enter Tryz.func219,Tryz.ntmps219
  go_upto_region 1 with fail;rw[a.o,g.o];clear a
  go_wp2_with (first
   | ((with_reducible refine e_ (some 12) ?_);refine M_ (by rfl) 39 _ rfl rfl u _ M.o Tryz.underlying39 rfl I.o ?_)
   | ((with_reducible refine e_ (some 14) ?_);refine M_ (by rfl) 39 _ rfl rfl v _ N.o Tryz.underlying39 rfl L.o ?_))
  refine (q.o _).mono ?_;rintro e S ⟨rfl,hb⟩;have G:=q_ (b.o.trans (hb.mono b.o.size));clear hb;go_wp2_with fail;go_ret;exact⟨rfl,G.o⟩
 ·rw[decide_eq_false s,Bool.false_and];have O:=bi_ s;go_enter Tryz.func219,Tryz.ntmps219
  go_upto_region 1 with fail;rw[a.o,g.o];clear a;go_wp2_with fail;go_ret;exact⟨rfl,b.o⟩
theorem B2_ (i s d E D y:Int) (t x:ByteArray) (A B:Option Addr) (n m ca cb:Nat) (w:World) :
    Calls Tryz.prog 142 #[.agg #[.int .i64 i,.int .i64 s,.int .i64 d,.string t,.slice A n ca],.agg #[.int .i64 E,.int .i64 D,.int .i64 y,.string x,.slice B m cb]] w (u_ (decide (i=E)&&decide (s=D)&&decide (d=y)&&decide (t=x)&&decide (n=0)&&decide (m=0)) w):=by
 obtain⟨z,C⟩:=a_ w.heap.size;obtain⟨w2,c⟩:=a_ ((w.alloc (.cells #[.int .i64 i,.int .i64 s,.int .i64 d,.string t,.slice A n ca] 74)).alloc (.cells #[.int .i64 E,.int .i64 D,.int .i64 y,.string x,.slice B m cb] 74));have e:=q_ (show Below w.heap.size w w2 from by rw[<-c.o];exact L_ w _ _);have b:=q_ (show w2.heap[z]?=some (.cells #[.int .i64 i,.int .i64 s,.int .i64 d,.string t,.slice A n ca] 74 (0,0)) from by rw[<-c.o,<-C.o];exact heap_alloc2_old w _ _);have a:=q_ (show w2.heap[z+1]?=some (.cells #[.int .i64 E,.int .i64 D,.int .i64 y,.string x,.slice B m cb] 74 (0,0)) from by rw[<-c.o,<-C.o];exact heap_alloc2_new w _ _);by_cases h0:i=E
 ·subst h0;by_cases h1:s=D
  ·subst h1;by_cases h2:d=y
   ·subst h2;by_cases F:t=x
    ·subst F;by_cases G:n=0
     ·subst G;by_cases I:m=0
      ·subst I;have f:=q_ (show true=(decide (i=i)&&decide (s=s)&&decide (d=d)&&decide (t=t)&&decide (0=0)&&decide (0=0)) from by simp);go_enter Tryz.func142,Tryz.ntmps142
       go_upto_region 1 with fail;rw[c.o,C.o];clear c;have g:=cell_of_heap b.o 0;have k:=cell_of_heap b.o 1;have v:=cell_of_heap b.o 2;have p:=cell_of_heap b.o 3;have h:=cell_of_heap b.o 4;have q:=cell_of_heap a.o 0;have u:=cell_of_heap a.o 1;have l:=cell_of_heap a.o 2;have j:=cell_of_heap a.o 3;have r:=cell_of_heap a.o 4;simp only[List.getElem?_toArray,List.getElem?_cons_zero,List.getElem?_cons_succ]at g k v p h q u l j r;go_wp2_with fail;go_ret
       first
        | exact x_ f.o e.o
        | exact x_ rfl e.o
      ·have f:=q_ (show false=(decide (i=i)&&decide (s=s)&&decide (d=d)&&decide (t=t)&&decide (0=0)&&decide (m=0)) from by simp[I]);have t5:((m:Int)==0)=false:=by simp;omega
       go_enter Tryz.func142,Tryz.ntmps142
       go_upto_region 1 with fail;rw[c.o,C.o];clear c;have g:=cell_of_heap b.o 0;have k:=cell_of_heap b.o 1;have v:=cell_of_heap b.o 2;have p:=cell_of_heap b.o 3;have h:=cell_of_heap b.o 4;have q:=cell_of_heap a.o 0;have u:=cell_of_heap a.o 1;have l:=cell_of_heap a.o 2;have j:=cell_of_heap a.o 3;have r:=cell_of_heap a.o 4;simp only[List.getElem?_toArray,List.getElem?_cons_zero,List.getElem?_cons_succ]at g k v p h q u l j r;go_wp2_with fail;go_ret
       first
        | exact x_ f.o e.o
        | exact x_ rfl e.o
     ·have f:=q_ (show false=(decide (i=i)&&decide (s=s)&&decide (d=d)&&decide (t=t)&&decide (n=0)&&decide (m=0)) from by simp[G]);have J:((n:Int)==0)=false:=by simp;omega
      go_enter Tryz.func142,Tryz.ntmps142
      go_upto_region 1 with fail;rw[c.o,C.o];clear c;have g:=cell_of_heap b.o 0;have k:=cell_of_heap b.o 1;have v:=cell_of_heap b.o 2;have p:=cell_of_heap b.o 3;have h:=cell_of_heap b.o 4;have q:=cell_of_heap a.o 0;have u:=cell_of_heap a.o 1;have l:=cell_of_heap a.o 2;have j:=cell_of_heap a.o 3;have r:=cell_of_heap a.o 4;simp only[List.getElem?_toArray,List.getElem?_cons_zero,List.getElem?_cons_succ]at g k v p h q u l j r;go_wp2_with fail;go_ret
      first
       | exact x_ f.o e.o
       | exact x_ rfl e.o
    ·have f:=q_ (show false=(decide (i=i)&&decide (s=s)&&decide (d=d)&&decide (t=x)&&decide (n=0)&&decide (m=0)) from by simp[F]);have L:=bi_ F;go_enter Tryz.func142,Tryz.ntmps142
     go_upto_region 1 with fail;rw[c.o,C.o];clear c;have g:=cell_of_heap b.o 0;have k:=cell_of_heap b.o 1;have v:=cell_of_heap b.o 2;have p:=cell_of_heap b.o 3;have h:=cell_of_heap b.o 4;have q:=cell_of_heap a.o 0;have u:=cell_of_heap a.o 1;have l:=cell_of_heap a.o 2;have j:=cell_of_heap a.o 3;have r:=cell_of_heap a.o 4;simp only[List.getElem?_toArray,List.getElem?_cons_zero,List.getElem?_cons_succ]at g k v p h q u l j r;go_wp2_with fail;go_ret
     first
      | exact x_ f.o e.o
      | exact x_ rfl e.o
   ·have f:=q_ (show false=(decide (i=i)&&decide (s=s)&&decide (d=y)&&decide (t=x)&&decide (n=0)&&decide (m=0)) from by simp[h2]);have x:(d==y)=false:=by simpa using h2
    go_enter Tryz.func142,Tryz.ntmps142
    go_upto_region 1 with fail;rw[c.o,C.o];clear c;have g:=cell_of_heap b.o 0;have k:=cell_of_heap b.o 1;have v:=cell_of_heap b.o 2;have p:=cell_of_heap b.o 3;have h:=cell_of_heap b.o 4;have q:=cell_of_heap a.o 0;have u:=cell_of_heap a.o 1;have l:=cell_of_heap a.o 2;have j:=cell_of_heap a.o 3;have r:=cell_of_heap a.o 4;simp only[List.getElem?_toArray,List.getElem?_cons_zero,List.getElem?_cons_succ]at g k v p h q u l j r;go_wp2_with fail;go_ret
    first
     | exact x_ f.o e.o
     | exact x_ rfl e.o
  ·have f:=q_ (show false=(decide (i=i)&&decide (s=D)&&decide (d=y)&&decide (t=x)&&decide (n=0)&&decide (m=0)) from by simp[h1]);have N:(s==D)=false:=by simpa using h1
   go_enter Tryz.func142,Tryz.ntmps142
   go_upto_region 1 with fail;rw[c.o,C.o];clear c;have g:=cell_of_heap b.o 0;have k:=cell_of_heap b.o 1;have v:=cell_of_heap b.o 2;have p:=cell_of_heap b.o 3;have h:=cell_of_heap b.o 4;have q:=cell_of_heap a.o 0;have u:=cell_of_heap a.o 1;have l:=cell_of_heap a.o 2;have j:=cell_of_heap a.o 3;have r:=cell_of_heap a.o 4;simp only[List.getElem?_toArray,List.getElem?_cons_zero,List.getElem?_cons_succ]at g k v p h q u l j r;go_wp2_with fail;go_ret
   first
    | exact x_ f.o e.o
    | exact x_ rfl e.o
 ·have f:=q_ (show false=(decide (i=E)&&decide (s=D)&&decide (d=y)&&decide (t=x)&&decide (n=0)&&decide (m=0)) from by simp[h0]);have M:(i==E)=false:=by simpa using h0
  go_enter Tryz.func142,Tryz.ntmps142
  go_upto_region 1 with fail;rw[c.o,C.o];clear c;have g:=cell_of_heap b.o 0;have k:=cell_of_heap b.o 1;have v:=cell_of_heap b.o 2;have p:=cell_of_heap b.o 3;have h:=cell_of_heap b.o 4;have q:=cell_of_heap a.o 0;have u:=cell_of_heap a.o 1;have l:=cell_of_heap a.o 2;have j:=cell_of_heap a.o 3;have r:=cell_of_heap a.o 4;simp only[List.getElem?_toArray,List.getElem?_cons_zero,List.getElem?_cons_succ]at g k v p h q u l j r;go_wp2_with fail;go_ret
  first
   | exact x_ f.o e.o
   | exact x_ rfl e.o
def ia_ (w:World) (A:Option Addr) (l:List ByteArray):Prop:=∀i x,l[i]?=some x->∃ad,A=some ad/\ad.block<w.heap.size/\w.cell? (ad.add i)=some (.string x)
theorem ia_.on {w w':World} {A:Option Addr} {l:List ByteArray} (h:ia_ w A l) (hb:Below w.heap.size w w'):ia_ w' A l:=λi x a=>by
 obtain⟨ad,e,h1,h2⟩:=h i x a;exact⟨ad,e,Nat.lt_of_lt_of_le h1 hb.size,by rw[hb.cell (p:=ad.add i) (by rw[a3_];exact h1)];exact h2⟩
theorem Ja_ (l r:List ByteArray) (A B:Option Addr) (n m ca cb:Nat) (w:World) (J:l.length=n) (U:r.length=m) (hn:n<=1000000000) (X:ia_ w A l) (R:ia_ w B r) :
    Calls Tryz.prog 217 #[.slice A n ca,.slice B m cb] w (u_ (decide (l=r)) w):=by
 have T:=q_ X;have N:=q_ R;have F:=q_ J;have D:=q_ U;obtain⟨t,v⟩:=a_ (decide (l=r));rw[v.o];unfold u_;clear X R J U;go_enter Tryz.func217,Tryz.ntmps217
 by_cases C:n=m
 ·subst C;go_wp2_with fail;go_loopw [13] (λj c=>∃k:Nat,k<=n/\j = .int .i64 (k:Nat)/\Q_ (Below w.heap.size w c/\l.take k=r.take k)) (λj _=>n-(intOf j).toNat)
  case atStart=>exact⟨0,by omega,rfl,q_ ⟨Below.refl _ _,rfl⟩⟩
  case round=>
   rename World=>c
   obtain⟨k,hk,rfl,f⟩:=hrel;by_cases h:k<n
   ·have a1:(0:Int)<=k:=by omega
    have Y:(k:Int)<n:=by omega
    have w1:IntKind.i64.wrap ((k:Int)+1)=(k:Int)+1:=IntWalk.i64_in _ (by omega);have z:=q_ h;have d:=q_ f.o.1;have L:=q_ f.o.2;obtain⟨x,E⟩:∃x,l[k]?=some x:=⟨_,List.getElem?_eq_getElem (by rw[F.o];exact h)⟩;obtain⟨y,G⟩:∃y,r[k]?=some y:=⟨_,List.getElem?_eq_getElem (by rw[D.o];exact h)⟩;have u:=q_ E;have s:=q_ G;obtain⟨ad,rfl,_,pa⟩:=T.o.on f.o.1 k x E;obtain⟨q,rfl,_,pb⟩:=N.o.on f.o.1 k y G;have P:=q_ (λ(W:World) (hb:Below c.heap.size c W)=>(show W.cell? (ad.add k)=some (.string x) from by obtain⟨O,e,_,p⟩:=T.o.on (d.o.trans (hb.mono d.o.size)) k x u.o;injection e with e;rw[e];exact p));have M:=q_ (λ(W:World) (hb:Below c.heap.size c W)=>(show W.cell? (q.add k)=some (.string y) from by obtain⟨O,e,_,p⟩:=N.o.on (d.o.trans (hb.mono d.o.size)) k y s.o;injection e with e;rw[e];exact p));clear E G f h;by_cases g:x=y
    ·subst g;go_upto_region 6 with fail;refine wp_region_held_drew (S:=λW:World=>Below c.heap.size c W) (by kernel_rfl) (Below.refl _ _).drew λa=>?_;refine V_.o ?_;refine v_ 0 16 (.slice (some ad) n ca) a λa=>?_;(try simp only[Act.put,aT,aZ,aS]);refine v_ 1 17 (.int .i64 (k:Nat)) a λa=>?_;(try simp only[Act.put,aT,aZ,aS]);refine v_ 2 18 (.pointer (some (ad.add k))) a λa=>?_;(try simp only[Act.put,aT,aZ,aS]);refine J_ 3 19 (.string x) a (λw b=>?_) λa=>?_
     ·have p:=P.o w b;unfold o_;go_simp
     (try simp only[Act.put,aT,aZ,aS]);refine v_ 4 20 (.slice (some q) n cb) a λa=>?_;(try simp only[Act.put,aT,aZ,aS]);refine v_ 5 21 (.int .i64 (k:Nat)) a λa=>?_;(try simp only[Act.put,aT,aZ,aS]);refine v_ 6 22 (.pointer (some (q.add k))) a λa=>?_;(try simp only[Act.put,aT,aZ,aS]);refine J_ 7 23 (.string x) a (λw b=>?_) λa=>?_
     ·have p:=M.o w b;unfold o_;go_simp
     (try simp only[Act.put,aT,aZ,aS]);refine v_ 8 24 (.bool false) a λa=>?_;(try simp only[Act.put,aT,aZ,aS]);refine⟨wpAnyH_done (by kernel_rfl) ?_ _⟩;clear a;go_wp2_with fail;go_roundw
     case rel=>exact⟨k+1,by have:=z.o;omega,by go_num,q_ ⟨d.o.drew,by rw[g_ u.o,g_ s.o,L.o]⟩⟩
     case measure=>simp[intOf];have:=z.o;omega
    ·have I:=bi_ g;have i:=q_ (show t=false from by rw[<-v.o];refine decide_eq_false (λe=>g ?_);have h1:=u.o;rw[e,s.o]at h1;injection h1 with h1;exact h1.symm);clear g;go_upto_region 6 with fail;refine wp_region_held_drew (S:=λW:World=>Below c.heap.size c W) (by kernel_rfl) (Below.refl _ _).drew λa=>?_;refine V_.o ?_;refine v_ 0 16 (.slice (some ad) n ca) a λa=>?_;(try simp only[Act.put,aT,aZ,aS]);refine v_ 1 17 (.int .i64 (k:Nat)) a λa=>?_;(try simp only[Act.put,aT,aZ,aS]);refine v_ 2 18 (.pointer (some (ad.add k))) a λa=>?_;(try simp only[Act.put,aT,aZ,aS]);refine J_ 3 19 (.string x) a (λw b=>?_) λa=>?_
     ·have p:=P.o w b;unfold o_;go_simp
     (try simp only[Act.put,aT,aZ,aS]);refine v_ 4 20 (.slice (some q) n cb) a λa=>?_;(try simp only[Act.put,aT,aZ,aS]);refine v_ 5 21 (.int .i64 (k:Nat)) a λa=>?_;(try simp only[Act.put,aT,aZ,aS]);refine v_ 6 22 (.pointer (some (q.add k))) a λa=>?_;(try simp only[Act.put,aT,aZ,aS]);refine J_ 7 23 (.string y) a (λw b=>?_) λa=>?_
     ·have p:=M.o w b;unfold o_;go_simp
     (try simp only[Act.put,aT,aZ,aS]);refine v_ 8 24 (.bool true) a λa=>?_;(try simp only[Act.put,aT,aZ,aS]);refine⟨wpAnyH_done (by kernel_rfl) ?_ _⟩;clear a;go_wp2_with fail;go_ret;exact⟨(by rw[i.o];rfl),d.o.drew⟩
   ·have Y:¬(k:Int)<n:=by omega
    have Z:k=n:=by omega
    have i:=q_ (show t=true from by rw[<-v.o];refine decide_eq_true ?_;have h1:=f.o.2;rwa [List.take_of_length_le (by rw[F.o];omega),List.take_of_length_le (by rw[D.o];omega)]at h1);go_wp2_with fail;go_ret;exact⟨(by rw[i.o];rfl),f.o.1⟩
 ·have I:¬((n:Int)=(m:Int)):=by omega
  have i:=q_ (show t=false from by rw[<-v.o];exact decide_eq_false (λe=>C (by rw[<-F.o,<-D.o,e])));go_wp2_with fail;go_ret;exact⟨(by rw[i.o];rfl),Below.refl _ _⟩
noncomputable def lv_ (p r:C_):Bool:=decide (p.key=r.key)&&bh_ p.v r.v
theorem x2_ {p r:C_}:lv_ p r=true↔p=r:=by
 unfold lv_;rw[Bool.and_eq_true,decide_eq_true_eq,h9_]
 cases p
 cases r;simp
def at2 {a : Type} (f:a -> a -> Bool) (l r:List a) (i:Nat):Bool:=match l[i]?,r[i]? with | some x,some y=>f x y | _,_=>true
def ft_ {a : Type} (f:a -> a -> Bool) (l r:List a):Bool:=decide (l.length=r.length)&&(List.range l.length).all (at2 f l r)
theorem jf_ {a : Type} {f:a -> a -> Bool} {l r:List a} (c:∀x,x∈l->∀y,y∈r->(f x y=true↔x=y)):ft_ f l r=true↔l=r:=by
 unfold ft_;rw[Bool.and_eq_true,decide_eq_true_eq,List.all_eq_true];constructor
 ·rintro⟨h1,h2⟩;refine List.ext_getElem? λi=>?_;by_cases hi:i<l.length
  ·have b:i<r.length:=by omega
   have h:=h2 i (List.mem_range.2 hi);unfold at2 at h;rw[List.getElem?_eq_getElem hi,List.getElem?_eq_getElem b]at h ⊢;rw[(c _ (List.getElem_mem hi) _ (List.getElem_mem b)).1 h]
  ·rw[List.getElem?_eq_none (by omega),List.getElem?_eq_none (by omega)]
 ·rintro rfl;refine⟨rfl,λi hi=>?_⟩;have hi:=List.mem_range.1 hi;unfold at2;rw[List.getElem?_eq_getElem hi];exact (c _ (List.getElem_mem hi) _ (List.getElem_mem hi)).2 rfl
noncomputable def e8_ (a b:i_):Bool:=decide (a.id=b.id)&&(decide (a.labels=b.labels)&&ft_ lv_ a.props b.props)
theorem pf_ {a b:i_}:e8_ a b=true↔a=b:=by
 unfold e8_;rw[Bool.and_eq_true,Bool.and_eq_true,decide_eq_true_eq,decide_eq_true_eq,jf_ λx _ y _=>x2_]
 cases a
 cases b;simp
theorem es_ {p : Type} {R:bj_ p} {sz:Nat} {w:World} {F:Nat->Prop} {l:List p} {A:Option Addr} {n:Nat} (h:SRd sz R w F l A n) (q:∀b,F b->b<w.heap.size) (k:∀x c,R w F x c->c.all (·.oneCell')=true) :
    ∃cs:Nat->Array Value,dw_ w sz A n cs/\∀i x,l[i]?=some x->R w F x (cs i):=by
 have o:∀i,∃c:Array Value,∀x,l[i]?=some x->(∃ad,A=some ad/\F ad.block/\c.size=sz/\(∀j,j<sz->w.cell? (ad.add (i*sz+j))=c[j]?))/\R w F x c:=λi=>by
  by_cases hi:i<l.length
  ·obtain⟨ad,c,e,g,h1,h2,f⟩:=h.at_ (List.getElem?_eq_getElem hi);refine⟨c,λx a=>?_⟩;rw[List.getElem?_eq_getElem hi]at a;injection a with a;exact⟨⟨ad,e,g,h1,h2⟩,a▸f⟩
  ·exact⟨#[],λx a=>by rw[List.getElem?_eq_none (by omega)]at a;cases a⟩
 obtain⟨cs,d⟩:=Classical.skolem.1 o;refine⟨cs,λi hi=>?_,λi x a=>(d i x a).2⟩;have hi:i<l.length:=by rw[<-h.1];exact hi
 obtain⟨⟨ad,e,g,h1,h2⟩,f⟩:=d i _ (List.getElem?_eq_getElem hi);exact⟨ad,e,q _ g,h1,k _ _ f,h2⟩
theorem vq_ {w:World} {F:Nat->Prop} {l:List ByteArray} {A:Option Addr} {n:Nat} (h:SRd 1 TxR w F l A n) (d:∀b,F b->b<w.heap.size):ia_ w A l:=λi x f=>by
 obtain⟨ad,c,e,g,_,h2,a⟩:=h.at_ f;have a:c=#[.string x]:=a;refine⟨ad,e,d _ g,?_⟩;have:=h2 0 (by omega);rw[Nat.mul_one,Nat.add_zero,a]at this;exact this
theorem ht_ {w:World} {F:Nat->Prop} {p:C_} {c:Array Value} (h:PaR w F p c):∃A b,c=cq_ p (.slice A p.v.list.length b):=by obtain⟨s,rfl,f⟩:=h;obtain⟨A,b,e,_⟩:=f.inv;refine⟨A,b,?_⟩;unfold c_ at e;injection e with e;have d:=congrArg (λa:Array Value=>a[5]?) e;have d:some s=some (.slice A p.v.list.length b):=d;injection d with d;rw[d]
theorem ze_ {w:World} {F:Nat->Prop} {p:C_} {c:Array Value} (h:PaR w F p c):c.all (·.oneCell')=true:=by obtain⟨A,a,rfl⟩:=ht_ h;kernel_rfl
theorem rk_ (a b:i_) (F G:Nat->Prop) (u v:Array Value) (w:World) (hF:∀g,F g->g<w.heap.size) (hG:∀g,G g->g<w.heap.size) (h1:NoR w F a u) (h2:NoR w G b v) (hn:a.labels.length<=1000000000/\a.props.length<=1000000000) (hl:∀p,p∈a.props->p.v.list=[]) :
    Calls Tryz.prog 141 #[.agg u,.agg v] w (u_ (e8_ a b) w):=by
 obtain⟨_,_,rfl,⟨D,I,rfl,_,M⟩,⟨B,t,rfl,_,R⟩⟩:=h1;obtain⟨_,_,rfl,⟨C,x,rfl,_,S⟩,⟨E,y,rfl,_,O⟩⟩:=h2;obtain⟨cs,a3,a1⟩:=es_ R hF λ_ _ h=>ze_ h;obtain⟨ds,T,Z⟩:=es_ O hG λ_ _ h=>ze_ h;have n:=q_ λ(W:World) (hb:Below w.heap.size w W)=>Ja_ a.labels b.labels D C _ _ I x W rfl rfl hn.1 ((vq_ M hF).on hb) ((vq_ S hG).on hb)
 have k:=q_ (λ(W:World) (hb:Below w.heap.size w W)=>B0_ cs ds (at2 lv_ a.props b.props) B E _ _ t y W hn.2 (a3.on hb) (T.on hb) (λi hi hj W2 _=>by
  have e1:=List.getElem?_eq_getElem hi;have e2:=List.getElem?_eq_getElem hj;obtain⟨P,q,e3⟩:=ht_ (a1 i _ e1);obtain⟨Q,q',e4⟩:=ht_ (Z i _ e2);have hz:=hl _ (List.getElem_mem hi);rw[hz]at e3;have:=B1_ a.props[i] b.props[i] hz P Q q q' W2;unfold at2;rw[e1,e2,e3,e4];exact this))
 obtain⟨i,Hi⟩:=a_ a.id;obtain⟨s,a4⟩:=a_ b.id;obtain⟨n1,Y⟩:=a_ a.labels.length;obtain⟨n2,L⟩:=a_ a.props.length;obtain⟨m1,a2⟩:=a_ b.labels.length;obtain⟨m2,U⟩:=a_ b.props.length;obtain⟨x1,X⟩:=a_ (decide (a.labels=b.labels));obtain⟨x2,J⟩:=a_ (ft_ lv_ a.props b.props);unfold e8_;rw[X.o]at n;have a0:=q_ (show (decide (a.props.length=b.props.length)&&(List.range a.props.length).all (at2 lv_ a.props b.props))=x2 from J.o);rw[a0.o]at k;rw[Y.o,a2.o]at n;rw[L.o,U.o]at k;rw[X.o,J.o,Hi.o,a4.o,Y.o,L.o,a2.o,U.o];clear M R S O a3 a1 T Z hl hn hF hG a0;obtain⟨z,A⟩:=a_ w.heap.size;obtain⟨w2,c⟩:=a_ ((w.alloc (.cells #[.int .i64 i,.slice D n1 I,.slice B n2 t] 72)).alloc (.cells #[.int .i64 s,.slice C m1 x,.slice E m2 y] 72));have f:=q_ (show Below w.heap.size w w2 from by rw[<-c.o];exact L_ w _ _);have l:=q_ (show w2.heap[z]?=some (.cells #[.int .i64 i,.slice D n1 I,.slice B n2 t] 72 (0,0)) from by rw[<-c.o,<-A.o];exact heap_alloc2_old w _ _);have d:=q_ (show w2.heap[z+1]?=some (.cells #[.int .i64 s,.slice C m1 x,.slice E m2 y] 72 (0,0)) from by rw[<-c.o,<-A.o];exact heap_alloc2_new w _ _);have p0:w2.cell? ⟨z,0,none⟩=some (.int .i64 i):=cell_of_heap l.o 0;have q0:w2.cell? ⟨z+1,0,none⟩=some (.int .i64 s):=cell_of_heap d.o 0;unfold u_ at n k;by_cases hi:i=s
 ·subst hi;rw[decide_eq_true rfl,Bool.true_and];obtain⟨r,Hr⟩:=a_ (x1&&x2);rw[Hr.o];have p1:w2.cell? ⟨z,1,none⟩=some (.slice D n1 I):=cell_of_heap l.o 1;have q1:w2.cell? ⟨z+1,1,none⟩=some (.slice C m1 x):=cell_of_heap d.o 1;unfold u_;go_enter Tryz.func141,Tryz.ntmps141
  go_upto_region 1 with fail;rw[c.o,A.o];clear c;go_wp2_with fail;refine (n.o w2 f.o).mono ?_;rintro e x0 ⟨rfl,hb⟩;have N:=q_ hb;have j:=q_ (f.o.trans (hb.mono f.o.size));clear hb
  cases x1 with
  | false=>
   have HN:=q_ (show false=r from Hr.o);go_wp2_with fail;go_ret;exact⟨(by rw[<-HN.o];rfl),j.o⟩
  | true=>
   have HN:=q_ (show x2=r from Hr.o);have p2:x0.cell? ⟨z,2,none⟩=some (.slice B n2 t):=(N.o.cell (b_ l.o)).trans (cell_of_heap l.o 2);have q2:x0.cell? ⟨z+1,2,none⟩=some (.slice E m2 y):=(N.o.cell (b_ d.o)).trans (cell_of_heap d.o 2);go_wp2_with fail;refine (k.o x0 j.o).mono ?_;rintro e x5 ⟨rfl,hb⟩;have a5:=q_ (j.o.trans (hb.mono j.o.size));clear hb;go_wp2_with fail;go_ret;exact⟨(by rw[<-HN.o];rfl),a5.o⟩
 ·rw[decide_eq_false hi,Bool.false_and];have t3:(i==s)=false:=by simpa using hi
  unfold u_;go_enter Tryz.func141,Tryz.ntmps141
  go_upto_region 1 with fail;rw[c.o,A.o];clear c;go_wp2_with fail;go_ret;exact⟨rfl,f.o⟩
def lw_ (x y:m_):Bool:=decide (x.id=y.id)&&decide (x.src=y.src)&&decide (x.dst=y.dst)&&decide (x.type=y.type)&&decide (x.props.length=0)&&decide (y.props.length=0)
theorem x3_ {x y:m_} (d:x.props=[]):lw_ x y=true↔x=y:=by
 unfold lw_;simp only[Bool.and_eq_true,decide_eq_true_eq,List.length_eq_zero_iff]
 cases x
 cases y;simp only at d;subst d;simp only[m_.mk.injEq];constructor
 ·rintro⟨⟨⟨⟨⟨h1,h2⟩,b⟩,c⟩,_⟩,a⟩;exact⟨h1,h2,b,c,a.symm⟩
 ·rintro⟨h1,h2,b,c,a⟩;exact⟨⟨⟨⟨⟨h1,h2⟩,b⟩,c⟩,trivial⟩,a.symm⟩
noncomputable def lx_ (g h:y_):Bool:=ft_ e8_ g.nodes h.nodes&&ft_ lw_ g.edges h.edges
theorem x4_ {g h:y_} (a:∀e,e∈g.edges->e.props=[]):lx_ g h=true↔g=h:=by
 unfold lx_;rw[Bool.and_eq_true,jf_ λx _ y _=>pf_,jf_ λx b y _=>x3_ (a x b)]
 cases g
 cases h;simp
theorem ta_ {w:World} {F:Nat->Prop} {x:i_} {c:Array Value} (h:NoR w F x c):c.all (·.oneCell')=true:=by obtain⟨_,_,rfl,⟨_,_,rfl,_⟩,⟨_,_,rfl,_⟩⟩:=h;kernel_rfl
theorem tb_ {w:World} {F:Nat->Prop} {x:m_} {c:Array Value} (h:EdR w F x c):c.all (·.oneCell')=true:=by obtain⟨_,rfl,⟨_,_,rfl,_⟩⟩:=h;kernel_rfl
theorem pg_ {w:World} {F:Nat->Prop} {x:m_} {c:Array Value} (h:EdR w F x c):∃A a,c=#[.int .i64 x.id,.int .i64 x.src,.int .i64 x.dst,.string x.type,.slice A x.props.length a]:=by obtain⟨_,rfl,⟨A,a,rfl,_⟩⟩:=h;exact⟨A,a,rfl⟩
theorem x5_ (g h:y_) (F G:Nat->Prop) (u v:Value) (w:World) (d:∀b,F b->b<w.heap.size) (f:∀b,G b->b<w.heap.size) (h1:GrR w F g u) (h2:GrR w G h v) (hn:g.nodes.length<=1000000000/\g.edges.length<=1000000000)
    (hl:∀n,n∈g.nodes->n.labels.length<=1000000000/\n.props.length<=1000000000/\∀p,p∈n.props->p.v.list=[]) :
    Calls Tryz.prog 79 #[u,v] w (u_ (lx_ g h) w):=by
 obtain⟨_,_,rfl,⟨L,R,rfl,_,Y⟩,⟨C,l,rfl,_,a0⟩⟩:=h1;obtain⟨_,_,rfl,⟨E,s,rfl,_,a1⟩,⟨N,x,rfl,_,a⟩⟩:=h2
 have t:=q_ (show ∀W:World,Below w.heap.size w W->Calls Tryz.prog 143 #[.slice L g.nodes.length R,.slice E h.nodes.length s,.func (.func 141) #[] #[]] W (u_ (ft_ e8_ g.nodes h.nodes) W) from λW hb=>by
  obtain⟨cs,T,S⟩:=es_ (Y.under NoR.good hb d) (λb k=>Nat.lt_of_lt_of_le (d b k) hb.size) λ_ _ h=>ta_ h;obtain⟨ds,D,M⟩:=es_ (a1.under NoR.good hb f) (λb k=>Nat.lt_of_lt_of_le (f b k) hb.size) λ_ _ h=>ta_ h;refine By_ cs ds (at2 e8_ g.nodes h.nodes) L E _ _ R s W hn.1 T D (λi hi hj W2 a=>?_);have O:=List.getElem?_eq_getElem hi;have A:=List.getElem?_eq_getElem hj;have hz:=hl _ (List.getElem_mem hi);have:=rk_ g.nodes[i] h.nodes[i] F G (cs i) (ds i) W2 (λb k=>Nat.lt_of_lt_of_le (d b k) (hb.trans (a.mono hb.size)).size) (λb k=>Nat.lt_of_lt_of_le (f b k) (hb.trans (a.mono hb.size)).size) (NoR.good.keep (S i _ O) (λp hp=>a.cell (Nat.lt_of_lt_of_le (d _ hp) hb.size))) (NoR.good.keep (M i _ A) (λp hp=>a.cell (Nat.lt_of_lt_of_le (f _ hp) hb.size))) ⟨hz.1,hz.2.1⟩ hz.2.2;unfold at2;rw[O,A];exact this)
 have J:=q_ (show ∀W:World,Below w.heap.size w W->Calls Tryz.prog 144 #[.slice C g.edges.length l,.slice N h.edges.length x,.func (.func 142) #[] #[]] W (u_ (ft_ lw_ g.edges h.edges) W) from λW hb=>by
  obtain⟨cs,T,S⟩:=es_ (a0.under EdR.good hb d) (λb k=>Nat.lt_of_lt_of_le (d b k) hb.size) λ_ _ h=>tb_ h;obtain⟨ds,D,M⟩:=es_ (a.under EdR.good hb f) (λb k=>Nat.lt_of_lt_of_le (f b k) hb.size) λ_ _ h=>tb_ h;refine Bz_ cs ds (at2 lw_ g.edges h.edges) C N _ _ l x W hn.2 T D (λi hi hj W2 a=>?_);have O:=List.getElem?_eq_getElem hi;have A:=List.getElem?_eq_getElem hj;obtain⟨P,q,e3⟩:=pg_ (S i _ O);obtain⟨Q,q',e4⟩:=pg_ (M i _ A);unfold at2;rw[O,A,e3,e4];exact B2_ _ _ _ _ _ _ _ _ _ _ _ _ _ _ W2)
 unfold lx_;obtain⟨n1,a4⟩:=a_ g.nodes.length;obtain⟨n2,X⟩:=a_ g.edges.length;obtain⟨m1,a5⟩:=a_ h.nodes.length;obtain⟨m2,a2⟩:=a_ h.edges.length;obtain⟨x1,a3⟩:=a_ (ft_ e8_ g.nodes h.nodes);obtain⟨x2,U⟩:=a_ (ft_ lw_ g.edges h.edges);rw[a3.o,a4.o,a5.o]at t;rw[U.o,X.o,a2.o]at J;rw[a3.o,U.o,a4.o,X.o,a5.o,a2.o];clear Y a0 a1 a hl hn d f;obtain⟨z,Hz⟩:=a_ w.heap.size;obtain⟨w2,c⟩:=a_ ((w.alloc (.cells #[.slice L n1 R,.slice C n2 l] 54)).alloc (.cells #[.slice E m1 s,.slice N m2 x] 54));have B:=q_ (show Below w.heap.size w w2 from by rw[<-c.o];exact L_ w _ _);have I:=q_ (show w2.heap[z]?=some (.cells #[.slice L n1 R,.slice C n2 l] 54 (0,0)) from by rw[<-c.o,<-Hz.o];exact heap_alloc2_old w _ _);have y:=q_ (show w2.heap[z+1]?=some (.cells #[.slice E m1 s,.slice N m2 x] 54 (0,0)) from by rw[<-c.o,<-Hz.o];exact heap_alloc2_new w _ _);have p0:w2.cell? ⟨z,0,none⟩=some (.slice L n1 R):=cell_of_heap I.o 0;have q0:w2.cell? ⟨z+1,0,none⟩=some (.slice E m1 s):=cell_of_heap y.o 0;obtain⟨r,Hr⟩:=a_ (x1&&x2);rw[Hr.o];unfold u_ at t J ⊢;go_enter Tryz.func79,Tryz.ntmps79
 go_upto_region 1 with fail;rw[c.o,Hz.o];clear c;go_wp2_with fail;refine (t.o w2 B.o).mono ?_;rintro e x0 ⟨rfl,hb⟩;have Z:=q_ hb;have j:=q_ (B.o.trans (hb.mono B.o.size));clear hb
 cases x1 with
 | false=>
  have HN:=q_ (show false=r from Hr.o);go_wp2_with fail;go_ret;exact⟨(by rw[<-HN.o];rfl),j.o⟩
 | true=>
  have HN:=q_ (show x2=r from Hr.o);have p2:x0.cell? ⟨z,1,none⟩=some (.slice C n2 l):=(Z.o.cell (b_ I.o)).trans (cell_of_heap I.o 1);have q2:x0.cell? ⟨z+1,1,none⟩=some (.slice N m2 x):=(Z.o.cell (b_ y.o)).trans (cell_of_heap y.o 1);go_wp2_with fail;refine (J.o x0 j.o).mono ?_;rintro e x5 ⟨rfl,hb⟩;have a6:=q_ (j.o.trans (hb.mono j.o.size));clear hb;go_wp2_with fail;go_ret;exact⟨(by rw[<-HN.o];rfl),a6.o⟩
end
section
open Go Go.RowKit Go.Maps Go.WideMaps
def aw_ (s:ByteArray):Bool:=decide (1<=s.size/\s.size<=1048576)
theorem tc_ (s:ByteArray) (w:World):Calls Tryz.prog 87 #[.string s] w λe w'=>e = .returned (.bool (aw_ s))/\w'=w:=by
 have b:aw_ s=decide (1<=s.size/\s.size<=1048576):=rfl;generalize aw_ s=r at b ⊢;have c:=q_ b;clear b;by_cases h1:1<=s.size
 ·by_cases h2:s.size<=1048576
  ·have d:decide ((1:Int)<=s.size)=true:=decide_eq_true (by omega);have f:decide ((s.size:Int)<=1048576)=true:=decide_eq_true (by omega);have a:r=true:=by rw[c.o];exact decide_eq_true ⟨h1,h2⟩
   clear h1 h2;go_enter Tryz.func87,Tryz.ntmps87
   go_wp2
   go_ret;exact⟨by rw[a];rfl,rfl⟩
  ·have d:decide ((1:Int)<=s.size)=true:=decide_eq_true (by omega);have f:decide ((s.size:Int)<=1048576)=false:=decide_eq_false (by omega);have a:r=false:=by rw[c.o];exact decide_eq_false λh=>h2 h.2
   clear h1 h2;go_enter Tryz.func87,Tryz.ntmps87
   go_wp2
   go_ret;exact⟨by rw[a];rfl,rfl⟩
 ·have d:decide ((1:Int)<=s.size)=false:=decide_eq_false (by omega);have a:r=false:=by rw[c.o];exact decide_eq_false λh=>h1 h.1
  clear h1;go_enter Tryz.func87,Tryz.ntmps87
  go_wp2
  go_ret;exact⟨by rw[a];rfl,rfl⟩
def dk_ (a b:Int):Int:=if a<b then -1 else if b<a then 1 else 0
theorem vr_ (a b:Int) (w:World):Calls Tryz.prog 96 #[.int .i64 a,.int .i64 b] w λe w'=>e = .returned (.int .i64 (dk_ a b))/\w'=w:=by
 by_cases h1:a<b
 ·have c:=q_ (show dk_ a b = -1 from if_pos h1);generalize dk_ a b=r at c ⊢;have d:decide (a<b)=true:=decide_eq_true h1;clear h1;go_enter Tryz.func96,Tryz.ntmps96
  go_wp2
  go_ret;exact⟨by rw[c.o];rfl,rfl⟩
 ·by_cases h2:b<a
  ·have c:=q_ (show dk_ a b=1 from (if_neg h1).trans (if_pos h2));generalize dk_ a b=r at c ⊢;have d:decide (a<b)=false:=decide_eq_false h1;have f:decide (b<a)=true:=decide_eq_true h2;clear h1 h2;go_enter Tryz.func96,Tryz.ntmps96
   go_wp2
   go_ret;exact⟨by rw[c.o];rfl,rfl⟩
  ·have c:=q_ (show dk_ a b=0 from (if_neg h1).trans (if_neg h2));generalize dk_ a b=r at c ⊢;have d:decide (a<b)=false:=decide_eq_false h1;have f:decide (b<a)=false:=decide_eq_false h2;clear h1 h2;go_enter Tryz.func96,Tryz.ntmps96
   go_wp2
   go_ret;exact⟨by rw[c.o];rfl,rfl⟩
def VI (x:Int):Prop:=(Lit.int .i64 x).wf=true
def hu_ (x:Int):Lit:=.int .i64 x
theorem vs_:∀x y:Int,VI x->VI y->hu_ x=hu_ y->x=y:=λx y _ _ h=>by
 unfold hu_ at h;injection h
theorem vt_:∀x:Int,VI x->WideAt.IsKeyLit (hu_ x):=λ_ _=>trivial
theorem td_:Keyed Tryz.prog 2:=int_keyed Tryz.underlying2
theorem vu_ (w:World):(zeroValue 207).run Tryz.prog w = .ok (.agg #[]) w:=by kernel_rfl
def inB {K:Type} [DecidableEq K] (ks:List K) (x:K):Bool:=decide (x∈ks)
theorem dx_ {K:Type} [DecidableEq K] {ks:List K} {x:K} (h:x∈ks):inB ks x=true:=by unfold inB;exact decide_eq_true h
theorem ph_ {K:Type} [DecidableEq K] {ks:List K} {x:K} (h:x∉ks):inB ks x=false:=by unfold inB;exact decide_eq_false h
def ax_ {K:Type} [DecidableEq K] (kt:TypeId) (V:K->Prop) (lit:K->Lit) (w:World) (m:Nat) (ks:List K):Prop:=
 ∃D:DataW Unit,w.ownsMap Tryz.prog kt (unitElem (H:=Unit)) m ks.length D/\∀x,V x->Maps.has D (lit x)=inB ks x
def e9_ {K:Type} [DecidableEq K] (ks:List K) (x:K):List K:=if inB ks x=true then ks else ks++[x]
section
variable {K:Type} [DecidableEq K] {kt:TypeId} {V:K->Prop} {lit:K->Lit} {w w':World} {m:Nat} {ks:List K}
theorem ax_.turn (h:ax_ kt V lit w m ks) {S:Nat->Prop} (ht:Turn S w w') (a:¬S m):ax_ kt V lit w' m ks:=by obtain⟨D,h1,h2⟩:=h;exact⟨D,ht.map h1 a,h2⟩
theorem ax_.lt (h:ax_ kt V lit w m ks):m<w.heap.size:=by obtain⟨D,⟨b,a,hb,_⟩,_⟩:=h;exact b_ hb
theorem ax_.below (h:ax_ kt V lit w m ks) (hb:Below w.heap.size w w'):ax_ kt V lit w' m ks:=h.turn (Turn.of_below hb) (λa=>by have:=h.lt;omega)
theorem ax_.made (kt:TypeId) (V:K->Prop) (lit:K->Lit) (w:World):ax_ kt V lit (w.alloc (.map #[] 0)) w.heap.size ([]:List K):=
 ⟨.map [],World.ownsMap_made w _ _ _,λ_ _=>rfl⟩
theorem ax_.put (hi:∀x y,V x->V y->lit x=lit y->x=y) (c:∀x,V x->WideAt.IsKeyLit (lit x)) {D:DataW Unit} (f:∀x,V x->Maps.has D (lit x)=inB ks x) (g:IsMap D)
    {x:K} (a:V x) {d:DataW Unit}:∀y,V y->Maps.has (D.put (lit x) d) (lit y)=inB (ks++[x]) y:=λy b=>by
 by_cases e:y=x
 ·subst e;rw[has_put_same g (c _ a),dx_ (by simp)]
 ·rw[has_put_other (λh=>e (hi _ _ b a h)),f y b];unfold inB;simp[e]
def F3_ (kt:TypeId) (V:K->Prop) (lit:K->Lit) (m:Nat) (ks:List K) (x:K) (w:World) (e:Ending) (w':World):Prop:=
 e = .returned (.bool (!inB ks x))/\ax_ kt V lit w' m (e9_ ks x)/\Turn (λb=>b=m) w w'
def F4_ (ks:List K) (x:K) (w:World) (e:Ending) (w':World):Prop:=e = .returned (.bool (inB ks x))/\Below w.heap.size w w'
end
theorem Jb_ (m:Nat) (ks:List ByteArray) (x:ByteArray) (a:VS x) (w:World) (h:ax_ 9 VS if_ w m ks) :
    Calls Tryz.prog 148 #[.map (some m),.string x] w (F4_ ks x w):=by
 obtain⟨D,h1,h2⟩:=h;have b:=keyOf_string_mk Tryz.underlying9 a;have c:=q_ (show Maps.has D (.string x.data.toList)=inB ks x from h2 x a);generalize hr:inB ks x=r at c;have d:=q_ hr;clear h2 a hr;go_enter Tryz.func148,Tryz.ntmps148
 go_wp2_with (at_lookup;refine wpList_lookup_own_unit _ rfl _ _ 147 rfl 9 207 C5_ Tryz.underlying147 (vu_ _) m _ D rfl h1 _ _ rfl b ?_;rw[c.o])
 go_ret;exact⟨by rw[d.o];rfl,by repeat (first | exact Below.refl _ _ | refine Below.alloc ?_ (by simp) _)⟩
theorem zf_ (m:Nat) (ks:List ByteArray) (x:ByteArray) (c:VS x) (s:ks.length<=100000000) (w:World) (h:ax_ 9 VS if_ w m ks) :
    Calls Tryz.prog 88 #[.map (some m),.string x] w (F3_ 9 VS if_ m ks x w):=by
 have l:=q_ (Jb_ m ks x c w h);have n:=q_ h;have g:=keyOf_string_mk Tryz.underlying9 c;have r:=q_ c;clear h c;by_cases a:x∈ks
 ·have f:=q_ a;have b:=q_ (dx_ a);clear a;go_enter Tryz.func88,Tryz.ntmps88
  go_wp2_with fail;refine l.o.mono ?_;rintro e q ⟨rfl,hb⟩;have d:=q_ hb;rw[b.o];clear hb;go_wp2_with fail;go_ret;refine⟨by rw[b.o];rfl,?_,?_⟩
  ·unfold e9_;rw[if_pos (dx_ f.o)];exact n.o.below d.o
  ·exact (Turn.of_below d.o).mono (λi hi h=>by omega)
 ·have f:=q_ a;have b:=q_ (ph_ a);clear a;go_enter Tryz.func88,Tryz.ntmps88
  go_wp2_with fail;refine l.o.mono ?_;rintro e q ⟨rfl,hb⟩;have d:=q_ hb;rw[b.o];obtain⟨D,h1,h2⟩:=n.o.below hb;have p:=q_ h2;clear hb h2;go_wp2_with (at_mapUpdate;refine wpList_mapUpdate_own _ rfl _ _ _ 147 rfl 9 207 C5_ Tryz.underlying147 (unitElem (H:=Unit)) m _ D rfl h1 (by unfold maxLen;omega) _ _ _ rfl rfl g _ _ unitElem_mk ?_;intro w2 j k)
  go_ret;refine⟨by rw[b.o];rfl,?_,?_⟩
  ·unfold e9_;rw[if_neg (by rw[ph_ f.o];decide)];exact⟨_,by rw[List.length_append];exact j,ax_.put ty_ nq_ p.o h1.isMap r.o⟩
  ·exact ((Turn.of_below d.o).mono (λi hi h=>by omega)).trans ((Turn.of_grown k).mono (λi _ h=>by injection h))
theorem te_ (m:Nat) (ks:List Int) (x:Int) (a:VI x) (w:World) (h:ax_ 2 VI hu_ w m ks) :
    Calls Tryz.prog 92 #[.map (some m),.int .i64 x] w (F4_ ks x w):=by
 obtain⟨D,h1,h2⟩:=h;have b:=keyOf_int_mk Tryz.underlying2 a;have c:=q_ (show Maps.has D (.int .i64 x)=inB ks x from h2 x a);generalize hr:inB ks x=r at c;have d:=q_ hr;clear h2 a hr;go_enter Tryz.func92,Tryz.ntmps92
 go_wp2_with (at_lookup;refine wpList_lookup_own_unit _ rfl _ _ 145 rfl 2 207 td_ Tryz.underlying145 (vu_ _) m _ D rfl h1 _ _ rfl b ?_;rw[c.o])
 go_ret;exact⟨by rw[d.o];rfl,by repeat (first | exact Below.refl _ _ | refine Below.alloc ?_ (by simp) _)⟩
theorem zg_ (m:Nat) (ks:List Int) (x:Int) (c:VI x) (s:ks.length<=100000000) (w:World) (h:ax_ 2 VI hu_ w m ks) :
    Calls Tryz.prog 89 #[.map (some m),.int .i64 x] w (F3_ 2 VI hu_ m ks x w):=by
 have l:=q_ (te_ m ks x c w h);have n:=q_ h;have g:=keyOf_int_mk Tryz.underlying2 c;have r:=q_ c;clear h c;by_cases a:x∈ks
 ·have f:=q_ a;have b:=q_ (dx_ a);clear a;go_enter Tryz.func89,Tryz.ntmps89
  go_wp2_with fail;refine l.o.mono ?_;rintro e q ⟨rfl,hb⟩;have d:=q_ hb;rw[b.o];clear hb;go_wp2_with fail;go_ret;refine⟨by rw[b.o];rfl,?_,?_⟩
  ·unfold e9_;rw[if_pos (dx_ f.o)];exact n.o.below d.o
  ·exact (Turn.of_below d.o).mono (λi hi h=>by omega)
 ·have f:=q_ a;have b:=q_ (ph_ a);clear a;go_enter Tryz.func89,Tryz.ntmps89
  go_wp2_with fail;refine l.o.mono ?_;rintro e q ⟨rfl,hb⟩;have d:=q_ hb;rw[b.o];obtain⟨D,h1,h2⟩:=n.o.below hb;have p:=q_ h2;clear hb h2;go_wp2_with (at_mapUpdate;refine wpList_mapUpdate_own _ rfl _ _ _ 145 rfl 2 207 td_ Tryz.underlying145 (unitElem (H:=Unit)) m _ D rfl h1 (by unfold maxLen;omega) _ _ _ rfl rfl g _ _ unitElem_mk ?_;intro w2 j k)
  go_ret;refine⟨by rw[b.o];rfl,?_,?_⟩
  ·unfold e9_;rw[if_neg (by rw[ph_ f.o];decide)];exact⟨_,by rw[List.length_append];exact j,ax_.put vs_ vt_ p.o h1.isMap r.o⟩
  ·exact ((Turn.of_below d.o).mono (λi hi h=>by omega)).trans ((Turn.of_grown k).mono (λi _ h=>by injection h))
end
section
open Go Go.RowKit
def a4_ (v:h_):Bool:=I_ v 0&&(v.kind==1 || (v.kind==2 || (v.kind==3 || v.kind==4)))
theorem pi_ (v:h_) (U:T_ v<=10000000000000000) (F:Nat->Prop) (u:Value) (w:World) (D:∀g,F g->g<w.heap.size) (B:VRd w F v u) (p:F_ w) :
    Calls Tryz.prog 149 #[u] w (u_ (a4_ v) w):=by
 obtain⟨A,L,P,C,N⟩:=B.inv;have d:=q_ (λo:Obj=>do_ v U F u (w.alloc o) (λg p=>by have:=D g p;simp;omega) (B.under ((Below.refl _ _).alloc (Nat.le_refl _) _) D) (f_ p ((Below.refl _ _).alloc (Nat.le_refl _) _)));subst P;have a:=q_ (show a4_ v=(I_ v 0&&(v.kind==1 || (v.kind==2 || (v.kind==3 || v.kind==4)))) from rfl);obtain⟨s,O⟩:=a_ (Value.slice A v.list.length L);obtain⟨i,y⟩:=a_ (a4_ v);obtain⟨R,r⟩:=a_ (I_ v 0);rw[r.o]at d a;rw[y.o]at a ⊢;rw[O.o]at d ⊢;clear N C p r y
 cases v with
 | mk k b n t x l=>
 unfold c_ at d ⊢;simp only[h_.kind,h_.truth,h_.num,h_.text,h_.extra]at d a ⊢;clear B D;obtain⟨z,S⟩:=a_ w.heap.size;go_enter Tryz.func149,Tryz.ntmps149
 go_wp2_with fail;refine (d.o _).mono ?_;rintro e M ⟨rfl,hb⟩;have h:=q_ (((Below.refl w.heap.size w).alloc (Nat.le_refl _) (.cells #[.int .i64 k,.bool b,.int .i64 n,.string t,.string x,s] 39)).trans (hb.mono (by simp)));have q:=(hb.block w.heap.size (by simp)).trans (heap_alloc_new w (.cells #[.int .i64 k,.bool b,.int .i64 n,.string t,.string x,s] 39));have T:M.cell? ⟨w.heap.size,0,none⟩=some (.int .i64 k):=cell_of_heap q 0;clear hb q d;rw[S.o]at T ⊢
 cases R with
 | false=>
  have c:=q_ (show i=false from a.o);go_wp2_with fail;go_ret;exact⟨by rw[c.o];rfl,h.o⟩
 | true=>
  by_cases h1:k=1
  ·have c:=q_ (show i=true from by rw[a.o,h1];rfl);have J:(k==1)=true:=by rw[h1];rfl
   clear h1;go_wp2_with fail;go_ret;exact⟨by rw[c.o];rfl,h.o⟩
  ·have J:(k==1)=false:=by simp[h1]
   by_cases h2:k=2
   ·have c:=q_ (show i=true from by rw[a.o,h2];rfl);have G:(k==2)=true:=by rw[h2];rfl
    clear h1 h2;go_wp2_with fail;go_ret;exact⟨by rw[c.o];rfl,h.o⟩
   ·have G:(k==2)=false:=by simp[h2]
    by_cases f:k=3
    ·have c:=q_ (show i=true from by rw[a.o,f];rfl);have E:(k==3)=true:=by rw[f];rfl
     clear h1 h2 f;go_wp2_with fail;go_ret;exact⟨by rw[c.o];rfl,h.o⟩
    ·have E:(k==3)=false:=by simp[f]
     by_cases j:k=4
     ·have c:=q_ (show i=true from by rw[a.o,j];rfl);have I:(k==4)=true:=by rw[j];rfl
      clear h1 h2 f j;go_wp2_with fail;go_ret;exact⟨by rw[c.o];rfl,h.o⟩
     ·have I:(k==4)=false:=by simp[j]
      have c:=q_ (show i=false from by rw[a.o,J,G,E,I];rfl);clear h1 h2 f j;go_wp2_with fail;go_ret;exact⟨by rw[c.o];rfl,h.o⟩
theorem vv_ (v:h_) (p:T_ v<=10000000000000000) (F:Nat->Prop) (u:Value) (w:World) (h:∀g,F g->g<w.heap.size) (i:VRd w F v u) (c:F_ w) :
    Calls Tryz.prog 151 #[u] w (u_ (!a4_ v) w):=by
 obtain⟨A,j,z,f,q⟩:=i.inv;have a:=q_ (λo:Obj=>pi_ v p F u (w.alloc o) (λg c=>by have:=h g c;simp;omega) (i.under ((Below.refl _ _).alloc (Nat.le_refl _) _) h) (f_ c ((Below.refl _ _).alloc (Nat.le_refl _) _)));subst z;obtain⟨s,r⟩:=a_ (Value.slice A v.list.length j);obtain⟨C,d⟩:=a_ (a4_ v);rw[d.o]at a;rw[d.o];rw[r.o]at a ⊢;clear q f c
 cases v with
 | mk k b n t x l=>
 unfold c_ at a ⊢;simp only[h_.kind,h_.truth,h_.num,h_.text,h_.extra]at a ⊢;clear i h;go_enter Tryz.func151,Tryz.ntmps151
 go_wp2_with fail;refine (a.o _).mono ?_;rintro e B ⟨rfl,hb⟩;have y:=q_ (((Below.refl w.heap.size w).alloc (Nat.le_refl _) (.cells #[.int .i64 k,.bool b,.int .i64 n,.string t,.string x,s] 39)).trans (hb.mono (by simp)));clear hb;go_wp2_with fail;go_ret;exact⟨rfl,y.o⟩
def Mk_ (l:List h_) (p:h_->Bool) (w:World) (e:Ending) (w':World):Prop:=∃r:Int,e = .returned (.int .i64 r)/\(decide (0<=r)=l.any p)/\Below w.heap.size w w'
theorem F5_ (l:List h_) (p:h_->Bool) (F:Nat->Prop) (A:Option Addr) (n N:Nat) (w:World) (M:∀g,F g->g<w.heap.size) (C:LRd w F l A n) (hn:n<=1000000000)
    (y:∀(x:h_) (_:x∈l) (u:Value) (W:World),Below w.heap.size w W->VRd W F x u->Calls Tryz.prog 151 #[u] W (u_ (p x) W)) :
    Calls Tryz.prog 220 #[.slice A n N,.func (.func 151) #[] #[]] w (Mk_ l p w):=by
 have T:=q_ C;have Z:=q_ M;have J:=q_ y;have z:=q_ C.1;clear C M y;go_enter Tryz.func220,Tryz.ntmps220
 go_wp2_with fail;go_loopw [8] (λE wr=>∃k:Nat,k<=n/\E = .int .i64 (k:Nat)/\Q_ (((l.take k).any p)=false)/\Q_ (Below w.heap.size w wr)) (λE _=>n-(intOf E).toNat)
 case atStart=>exact⟨0,by omega,rfl,q_ (by simp),q_ (Below.refl _ _)⟩
 case round=>
  obtain⟨k,hk,rfl,c,i⟩:=hrel;by_cases L:k<n
  ·obtain⟨x,j⟩:∃x,l[k]?=some x:=⟨l[k]'(by rw[<-z.o];exact L),List.getElem?_eq_getElem _⟩;have R:=q_ (T.o.under i.o Z.o);obtain⟨ad,s,rfl,G,⟨B,S,rfl,P,O⟩,I,c0,c1,c2,c3,c4,c5⟩:=R.o.cellsAt j;have Y:=q_ j;have d:=q_ (List.mem_of_getElem? j);have f:=q_ (J.o x d.o _ wr i.o I);have b:=q_ (λ(h:p x=false)=>show (l.take (k+1)).any p=false from by rw[g_ Y.o,List.any_append,c.o];simp[h]);have a:=q_ (λ(h:p x=true)=>show l.any p=true from by rw[List.any_eq_true];exact⟨x,d.o,h⟩);obtain⟨r,U⟩:=a_ (p x);rw[U.o]at f b a;unfold c_ at f;have e1:(0:Int)<=k:=by omega
   have e2:(k:Int)<n:=by omega
   clear j O I G;go_wp2_with fail;refine f.o.mono ?_;rintro e w2 ⟨rfl,v⟩;have t:=q_ (i.o.trans (v.mono i.o.size));clear v
   cases r with
   | false=>
    have X:=q_ (b.o rfl);have w1:IntKind.i64.wrap ((k:Int)+1)=(k:Int)+1:=IntWalk.i64_in _ (by omega);go_wp2_with fail;go_roundw
    case rel=>exact⟨k+1,by omega,by go_num,X,t⟩
    case measure=>simp[intOf];omega
   | true=>
    have D:=q_ (a.o rfl);go_wp2_with fail;go_ret;exact⟨(k:Int),rfl,by rw[D.o];simp,t.o⟩
  ·have q:k=n:=by omega
   have D:=q_ (show l.any p=false from by have:=c.o;rw[List.take_of_length_le (by rw[q,z.o];exact Nat.le_refl _)]at this;exact this);subst q;go_wp2_with fail;go_ret;exact⟨-1,rfl,by rw[D.o];simp,i.o⟩
theorem B3_ (l:List h_) (z:ab_ l<=1000000000) (F:Nat->Prop) (A:Option Addr) (n c:Nat) (w:World) (f:∀g,F g->g<w.heap.size) (d:LRd w F l A n) (a:F_ w) :
    Calls Tryz.prog 150 #[.slice A n c,.func (.func 151) #[] #[]] w (u_ (l.any λv=>!a4_ v) w):=by
 have t:=dz_ l;have p:=q_ (F5_ l (λv=>!a4_ v) F A n c w f d (by rw[d.1];omega) (λx k u W i b=>vv_ x (by have:=fu_ k;omega) F u W (λg a=>Nat.lt_of_lt_of_le (f g a) i.size) b (f_ a i)));obtain⟨r,h⟩:=a_ (l.any λv=>!a4_ v);rw[h.o];clear d f a;go_enter Tryz.func150,Tryz.ntmps150
 go_wp2_with fail;refine p.o.mono ?_;rintro e y ⟨q,rfl,b,hb⟩;have j:=q_ b;have s:=q_ hb;clear b hb;go_wp2_with fail;go_ret;exact⟨by rw[<-h.o,<-j.o];rfl,s.o⟩
end
section
open Go Go.RowKit Go.Maps Go.WideMaps
theorem zh_ {w:World} {F:Nat->Prop} {l:List C_} {A:Option Addr} {n:Nat} (h:SRd 7 PaR w F l A n) {i:Nat} {x:C_} (o:l[i]?=some x) :
    ∃ad s,A=some ad/\F ad.block/\VRd w F x.v (.agg (c_ x.v s))/\w.cell? (ad.add (i*7))=some (.string x.key) /\
     w.cell? ⟨(ad.add (i*7)).block,(ad.add (i*7)).off+1,none⟩=some (.int .i64 x.v.kind)/\w.cell? ⟨(ad.add (i*7)).block,(ad.add (i*7)).off+2,none⟩=some (.bool x.v.truth)/\w.cell? ⟨(ad.add (i*7)).block,(ad.add (i*7)).off+3,none⟩=some (.int .i64 x.v.num) /\
     w.cell? ⟨(ad.add (i*7)).block,(ad.add (i*7)).off+4,none⟩=some (.string x.v.text)/\w.cell? ⟨(ad.add (i*7)).block,(ad.add (i*7)).off+5,none⟩=some (.string x.v.extra)/\w.cell? ⟨(ad.add (i*7)).block,(ad.add (i*7)).off+6,none⟩=some s:=by
 obtain⟨ad,c,e,p,_,a,s,rfl,q⟩:=h.at_ o;have k:=a 0 (by omega);have f:=a 1 (by omega);have b:=a 2 (by omega);have g:=a 3 (by omega);have c4:=a 4 (by omega);have d:=a 5 (by omega);have j:=a 6 (by omega);rw[<-add_of_add]at f b g c4 d j;exact⟨ad,s,e,p,q,k,f,b,g,c4,d,j⟩
def bg_ (v:h_):Bool:=if v.kind=5 then I_ v 0&&v.list.all a4_ else a4_ v
def az_:List ByteArray->List C_->Bool
 | _,[]=>true
 | ks,p::r=>(aw_ p.key&&(!inB ks p.key&&bg_ p.v))&&az_ (ks++[p.key]) r
def a0_ (l:List C_):Bool:=az_ [] l&&decide (l.length<=65536)
def F6_ (p:C_):Prop:=p.key.size<=2000000/\T_ p.v<=2000000
theorem vw_ (l:List C_):∀(k:Nat) (ks:List ByteArray),az_ ks l=(az_ ks (l.take k)&&az_ (ks++(l.take k).map C_.key) (l.drop k)):=by
 induction l with
 | nil=>intro k ks;simp[az_]
 | cons p r a=>
  intro k ks
  cases k with
  | zero=>simp[az_]
  | succ k=>
   simp only[List.take_succ_cons,List.drop_succ_cons,az_,List.map_cons];rw[a k (ks++[p.key])];simp only[Bool.and_assoc,List.append_assoc,List.singleton_append]
theorem vx_ (l:List C_) (p:C_):∀ks:List ByteArray,az_ ks (l++[p])=(az_ ks l&&(aw_ p.key&&(!inB (ks++l.map C_.key) p.key&&bg_ p.v))):=by
 induction l with
 | nil=>intro ks;simp[az_]
 | cons q r a=>
  intro ks;simp only[List.cons_append,az_,List.map_cons,a,Bool.and_assoc,List.append_assoc];simp
theorem ly_ {a : Type} {l:List a} {k:Nat} {x:a} (h:l[k]?=some x):l.drop k=x::l.drop (k+1):=by obtain⟨h1,rfl⟩:=List.getElem?_eq_some_iff.1 h;exact List.drop_eq_getElem_cons h1
structure F7_ (w:World) (m:Nat) (l:List C_) (k:Nat) (wr:World):Prop where
 below:Below w.heap.size w wr
 loc:w.heap.size<=m
 set:ax_ 9 VS if_ wr m ((l.take k).map C_.key)
 ok:az_ [] (l.take k)=true
theorem F8_ {l:List C_} {k:Nat} {x:C_} (a:l[k]?=some x) (h:(aw_ x.key&&(!inB ((l.take k).map C_.key) x.key&&bg_ x.v))=false):a0_ l=false:=by unfold a0_;rw[vw_ l k [],ly_ a,az_,List.nil_append,h];simp
theorem B4_ {l:List C_} {k:Nat} {x:C_} (a:l[k]?=some x) (h:(aw_ x.key&&(!inB ((l.take k).map C_.key) x.key&&bg_ x.v))=true) (b:az_ [] (l.take k)=true):az_ [] (l.take (k+1))=true:=by rw[g_ a,vx_,b,List.nil_append,h];rfl
theorem x6_ {v:h_} (h:v.kind=5):bg_ v=(I_ v 0 && !(v.list.any λx=>!a4_ x)):=by
 unfold bg_;rw[if_pos h];congr 1
 induction v.list with
 | nil=>rfl
 | cons a r b=>rw[List.all_cons,List.any_cons,Bool.not_or,Bool.not_not,b]
theorem B5_ {v:h_} (h:v.kind≠5):bg_ v=a4_ v:=by unfold bg_;rw[if_neg h]
theorem rl_ (l:List C_) (a7:∀p,p∈l->F6_ p) (ak:l.length<=2000000) (F:Nat->Prop) (A:Option Addr) (n b3:Nat) (w:World) (hF:∀g,F g->g<w.heap.size) (O:SRd 7 PaR w F l A n) (R:F_ w) :
    Calls Tryz.prog 90 #[.slice A n b3] w (u_ (a0_ l) w):=by
 have b5:=@run_makeMap Tryz.prog;have HL:=q_ O;have HF:=q_ hF;have HG:=q_ R;have ao:=q_ a7;have a2:=q_ O.1;have b7:n<=2000000:=by rw[O.1];exact ak
 clear O hF R a7;obtain⟨m,Hm⟩:=a_ w.heap.size;have HP:=q_ (show a0_ l=(az_ [] l&&decide (l.length<=65536)) from rfl);obtain⟨pb,ai⟩:=a_ (a0_ l);rw[ai.o]at HP ⊢;have ap:=q_ (λ(k:Nat) (x:C_) (P:l[k]?=some x) (h:(aw_ x.key&&(!inB ((l.take k).map C_.key) x.key&&bg_ x.v))=false)=>ai.o.symm.trans (F8_ P h));go_enter Tryz.func90,Tryz.ntmps90
 go_wp2_with fail;rw[Hm.o];go_loopw [10] (λU wr=>∃k:Nat,k<=n/\U = .int .i64 (k:Nat)/\Q_ (F7_ w m l k wr)) (λU _=>n-(intOf U).toNat)
 case atStart=>
  refine⟨0,by omega,rfl,q_ ⟨(Below.refl _ _).alloc (Nat.le_refl _) _,by rw[<-Hm.o];exact Nat.le_refl _,?_,rfl⟩⟩;rw[<-Hm.o];exact ax_.made _ _ _ _
 case round=>
  obtain⟨k,hk,rfl,d⟩:=hrel;by_cases au:k<n
  ·obtain⟨x,P⟩:∃x,l[k]?=some x:=⟨l[k]'(by rw[<-a2.o];exact au),List.getElem?_eq_getElem _⟩;have HX:=q_ P;have L:=q_ (ao.o x (List.mem_of_getElem? P));obtain⟨ad,s,rfl,aq,hv,c0,c1,c2,c3,c4,c5,c6⟩:=zh_ (HL.o.under PaR.good d.o.below HF.o) P;obtain⟨B,cb,C,_,_⟩:=hv.inv;injection C with C;obtain rfl:s = .slice B x.v.list.length cb:=by have:=congrArg (λa:Array Value=>a[5]?) C;simpa [c_] using this
   have HV:=q_ hv;clear P aq hv C;obtain⟨S,ay⟩:=a_ x.v.list.length;rw[ay.o]at c6 HV;obtain⟨z,Hz⟩:=a_ wr.heap.size;obtain⟨w5,I⟩:=a_ (wr.alloc (.cells #[.string x.key,.int .i64 x.v.kind,.bool x.v.truth,.int .i64 x.v.num,.string x.v.text,.string x.v.extra,.slice B S cb] 69));have J:=q_ (show Below wr.heap.size wr w5 from by rw[<-I.o];exact (Below.refl _ _).alloc (Nat.le_refl _) _);have f:=q_ (show w5.heap[z]?=some (.cells #[.string x.key,.int .i64 x.v.kind,.bool x.v.truth,.int .i64 x.v.num,.string x.v.text,.string x.v.extra,.slice B S cb] 69 (0,0)) from by rw[<-I.o,<-Hz.o];exact heap_alloc_new wr _);have a0:=q_ (show w5.heap.size=z+1 from by rw[<-I.o,<-Hz.o];simp);have e1:(0:Int)<=k:=by omega
   have e2:(k:Int)<n:=by omega
   go_upto_region 5 with fail;rw[I.o,Hz.o];have G:w.heap.size<=wr.heap.size:=d.o.below.size;have a3:=q_ (λ(W:World) (hW:Below wr.heap.size wr W) (g:Nat) (R:F g)=>show g<W.heap.size from Nat.lt_of_lt_of_le (HF.o g R) (Nat.le_trans G hW.size));have Y:=q_ (λ(g:Nat) (R:F g)=>show g<wr.heap.size from Nat.lt_of_lt_of_le (HF.o g R) G);have X:=q_ (f_ HG.o d.o.below);have a5:=q_ (pi_ x.v (by have:=L.o.2;omega) F _ w5 (a3.o w5 J.o) (HV.o.under J.o Y.o) (f_ X.o J.o));obtain⟨sc,ac⟩:=a_ (a4_ x.v);rw[ac.o]at a5;unfold c_ at a5;have d1:w5.cell? ⟨z,1,none⟩=some (.int .i64 x.v.kind):=cell_of_heap f.o 1;have d2:w5.cell? ⟨z,2,none⟩=some (.bool x.v.truth):=cell_of_heap f.o 2;have d3:w5.cell? ⟨z,3,none⟩=some (.int .i64 x.v.num):=cell_of_heap f.o 3;have d4:w5.cell? ⟨z,4,none⟩=some (.string x.v.text):=cell_of_heap f.o 4;have d5:w5.cell? ⟨z,5,none⟩=some (.string x.v.extra):=cell_of_heap f.o 5;have d6:w5.cell? ⟨z,6,none⟩=some (.slice B S cb):=cell_of_heap f.o 6;clear c0 c1 c2 c3 c4 c5 c6;go_wp2_with fail;refine a5.o.mono ?_;rintro e w6 ⟨rfl,M⟩;have c:=q_ (J.o.trans (M.mono (by rw[a0.o,Hz.o];omega)));have b:=q_ ((M.block z (by rw[a0.o];omega)).trans f.o);have a9:=q_ (show z<w6.heap.size from Nat.lt_of_lt_of_le (by rw[a0.o];omega) M.size);clear M d1 d2 d3 d4 d5 d6;have d1:w6.cell? ⟨z,1,none⟩=some (.int .i64 x.v.kind):=cell_of_heap b.o 1;go_upto_if 20 with fail;go_cut [6] (λs6 wx=>s6 = .bool (bg_ x.v)/\Q_ (Below w6.heap.size w6 wx))
   case first=>
    by_cases u:x.v.kind=5
    ·have q5:(x.v.kind==5)=true:=by rw[u];rfl
     have t:=q_ (x6_ u);have a4:=q_ (do_ x.v (by have:=L.o.2;omega) F _ w6 (a3.o w6 c.o) (HV.o.under c.o Y.o) (f_ X.o c.o));obtain⟨mv,b2⟩:=a_ (I_ x.v 0);rw[b2.o]at a4 t;unfold c_ at a4;have d2:w6.cell? ⟨z,2,none⟩=some (.bool x.v.truth):=cell_of_heap b.o 2;have d3:w6.cell? ⟨z,3,none⟩=some (.int .i64 x.v.num):=cell_of_heap b.o 3;have d4:w6.cell? ⟨z,4,none⟩=some (.string x.v.text):=cell_of_heap b.o 4;have d5:w6.cell? ⟨z,5,none⟩=some (.string x.v.extra):=cell_of_heap b.o 5;have d6:w6.cell? ⟨z,6,none⟩=some (.slice B S cb):=cell_of_heap b.o 6;clear u;go_wp2_with fail;refine a4.o.mono ?_;rintro e Z ⟨rfl,N⟩;have T:=q_ N;have D:=q_ (c.o.trans (N.mono (by have:=c.o.size;omega)));have d6:Z.cell? ⟨z,6,none⟩=some (.slice B S cb):=cell_of_heap ((N.block z a9.o).trans b.o) 6;clear N
     cases mv with
     | false=>
      go_wp2_with fail;go_meet;exact⟨by rw[t.o];rfl,T⟩
     | true=>
      have ae:=q_ (show Calls Tryz.prog 150 #[.slice B S cb,.func (.func 151) #[] #[]] Z (u_ (x.v.list.any λv=>!a4_ v) Z) from by obtain⟨B',b6,C,_,O⟩:=(HV.o.under D.o Y.o).inv;injection C with C;have u:=congrArg (λa:Array Value=>a[5]?) C;simp[c_]at u;obtain⟨rfl,rfl,rfl⟩:=u;exact B3_ x.v.list (by have:=L.o.2;have:=ir_ x.v;omega) F _ _ _ Z (a3.o Z D.o) O (f_ X.o D.o));obtain⟨av,b0⟩:=a_ (x.v.list.any λv=>!a4_ v);rw[b0.o]at ae t;go_wp2_with fail;refine ae.o.mono ?_;rintro e w8 ⟨rfl,af⟩;have b1:=q_ (T.o.trans (af.mono T.o.size));clear af;go_wp2_with fail;go_meet;exact⟨by rw[t.o];rfl,b1⟩
    ·have q5:(x.v.kind==5)=false:=by simp[u]
     have t:=q_ (B5_ u);clear u;go_wp2_with fail;go_meet;exact⟨by rw[t.o,ac.o],q_ (Below.refl _ _)⟩
   case rest=>
    obtain⟨h6,ab⟩:=hcut;subst h6;obtain⟨pv,ah⟩:=a_ (bg_ x.v);rw[ah.o];have ag:=q_ (c.o.trans (ab.o.mono (by have:=c.o.size;omega)));have q:=q_ (show F7_ w m l k wc from ⟨d.o.below.trans (ag.o.mono G),d.o.loc,d.o.set.below ag.o,d.o.ok⟩);have d0:wc.cell? ⟨z,0,none⟩=some (.string x.key):=cell_of_heap ((ab.o.block z a9.o).trans b.o) 0;have aa:=q_ (λW=>tc_ x.key W);have r:=q_ (ap.o k x HX.o);have y:=q_ (λh=>B4_ HX.o h d.o.ok);have aj:=q_ (zf_ m ((l.take k).map C_.key) x.key (by have:=L.o.1;unfold VS maxLen;omega) (by simp;omega) wc q.o.set);rw[ah.o]at r y;obtain⟨tb,az⟩:=a_ (aw_ x.key);rw[az.o]at aa r y;obtain⟨ib,a1⟩:=a_ (inB ((l.take k).map C_.key) x.key);rw[a1.o]at r y;clear d1;go_wp2_with fail;refine (aa.o _).mono ?_;rintro e w9 ⟨rfl,aw⟩;subst aw
    cases tb with
    | false=>
     have j:=q_ (r.o rfl);go_wp2_with fail;go_ret;exact⟨by rw[j.o];rfl,q.o.below⟩
    | true=>
     go_wp2_with fail;refine aj.o.mono ?_;rintro e b4 ⟨rfl,a6,a8⟩;rw[a1.o];have E:=q_ (q.o.below.trans (a8.below (B:=w.heap.size) (λi _ hi=>by rw[hi];exact q.o.loc) q.o.below.size));have am:=q_ a6;clear a6 a8
     cases ib with
     | true=>
      have j:=q_ (r.o rfl);go_wp2_with fail;go_ret;exact⟨by rw[j.o];rfl,E.o⟩
     | false=>
      cases pv with
      | false=>
       have j:=q_ (r.o rfl);go_wp2_with fail;go_ret;exact⟨by rw[j.o];rfl,E.o⟩
      | true=>
       have HY:=q_ (y.o rfl);have w1:IntKind.i64.wrap ((k:Int)+1)=(k:Int)+1:=IntWalk.i64_in _ (by omega);go_wp2_with fail;go_roundw
       case rel=>
        refine⟨k+1,by omega,by go_num,q_ ⟨E.o,q.o.loc,?_,HY.o⟩⟩;have h:=am.o;unfold e9_ at h;rw[a1.o,if_neg (by decide)]at h;rw[g_ HX.o,List.map_append];exact h
       case measure=>simp[intOf];omega
  ·have ar:k=n:=by omega
   subst ar;have j:=q_ (show pb=decide (k<=65536) from by have h:=d.o.ok;rw[List.take_of_length_le (by rw[a2.o];exact Nat.le_refl _)]at h;rw[HP.o,h,a2.o];rfl);by_cases h6:k<=65536
   ·have e6:decide ((k:Int)<=65536)=true:=decide_eq_true (by omega);rw[decide_eq_true h6]at j;go_wp2_with fail;go_ret;exact⟨by rw[j.o];rfl,d.o.below⟩
   ·have e6:decide ((k:Int)<=65536)=false:=decide_eq_false (by omega);rw[decide_eq_false h6]at j;go_wp2_with fail;go_ret;exact⟨by rw[j.o];rfl,d.o.below⟩
def be_:List ByteArray->List ByteArray->Bool
 | _,[]=>true
 | ks,s::r=>(aw_ s && !inB ks s)&&be_ (ks++[s]) r
theorem x7_ (l:List ByteArray):∀(k:Nat) (ks:List ByteArray),be_ ks l=(be_ ks (l.take k)&&be_ (ks++l.take k) (l.drop k)):=by
 induction l with
 | nil=>intro k ks;simp[be_]
 | cons p r a=>
  intro k ks
  cases k with
  | zero=>simp[be_]
  | succ k=>
   simp only[List.take_succ_cons,List.drop_succ_cons,be_];rw[a k (ks++[p])];simp only[Bool.and_assoc,List.append_assoc,List.singleton_append]
theorem x8_ (l:List ByteArray) (p:ByteArray):∀ks:List ByteArray,be_ ks (l++[p])=(be_ ks l&&(aw_ p && !inB (ks++l) p)):=by
 induction l with
 | nil=>intro ks;simp[be_]
 | cons q r a=>
  intro ks;simp only[List.cons_append,be_,a,Bool.and_assoc,List.append_assoc];simp
theorem Jc_ {l:List ByteArray} {k:Nat} {x:ByteArray} (a:l[k]?=some x) (h:(aw_ x && !inB (l.take k) x)=false):be_ [] l=false:=by rw[x7_ l k [],ly_ a,be_,List.nil_append,h];simp
theorem F9_ {l:List ByteArray} {k:Nat} {x:ByteArray} (a:l[k]?=some x) (h:(aw_ x && !inB (l.take k) x)=true) (b:be_ [] (l.take k)=true):be_ [] (l.take (k+1))=true:=by rw[g_ a,x8_,b,List.nil_append,h];rfl
def K9_ (m:Nat) (ks:List ByteArray) (x:ByteArray) (w:World) (e:Ending) (w':World):Prop:=
 e = .returned (.bool (!(aw_ x && !inB ks x)))/\((aw_ x && !inB ks x)=true->ax_ 9 VS if_ w' m (ks++[x]))/\Turn (λb=>b=m) w w'
theorem Ga_ (ca:Addr) (m:Nat) (ks:List ByteArray) (x:ByteArray) (j:VS x) (p:ks.length<=100000000) (w:World) (t:w.cell? ca=some (.map (some m))) (n:ax_ 9 VS if_ w m ks) :
    Calls Tryz.prog 86 #[.string x,.pointer (some ca)] w (K9_ m ks x w):=by
 have d:=q_ (λW=>tc_ x W);have g:=q_ (zf_ m ks x j p w n);clear j n;unfold K9_;obtain⟨r,l⟩:=a_ (aw_ x);obtain⟨q,b⟩:=a_ (inB ks x);rw[l.o]at d ⊢;rw[b.o];go_enter Tryz.func86,Tryz.ntmps86
 go_wp2_with fail;refine (d.o _).mono ?_;rintro e u ⟨rfl,k⟩;subst k
 cases r with
 | false=>
  go_wp2_with fail;go_ret;exact⟨rfl,λh=>by simp at h,Turn.refl _ _⟩
 | true=>
  go_wp2_with fail;refine g.o.mono ?_;rintro e s ⟨rfl,c,a⟩;rw[b.o];have f:=q_ c;have i:=q_ a;clear c a
  cases q with
  | true=>
   go_wp2_with fail;go_ret;exact⟨rfl,λh=>by simp at h,i.o⟩
  | false=>
   go_wp2_with fail;go_ret;refine⟨rfl,λ_=>?_,i.o⟩;have h:=f.o;unfold e9_ at h;rw[b.o,if_neg (by decide)]at h;exact h
theorem Gb_ {w:World} {F:Nat->Prop} {l:List ByteArray} {A:Option Addr} {n:Nat} (h:SRd 1 TxR w F l A n) {i:Nat} {x:ByteArray} (f:l[i]?=some x) :
    ∃ad,A=some ad/\F ad.block/\w.cell? (ad.add i)=some (.string x):=by
 obtain⟨ad,c,e,g,_,d,b⟩:=h.at_ f;have a:=d 0 (by omega);rw[b]at a;exact⟨ad,e,g,by simpa using a⟩
def La_ (m:Nat) (l:List ByteArray) (w:World) (e:Ending) (w':World):Prop:=∃r:Int,e = .returned (.int .i64 r)/\(decide (0<=r) = !be_ [] l)/\Turn (λb=>b=m) w w'
structure Ml_ (w:World) (m:Nat) (l:List ByteArray) (k:Nat) (wr:World):Prop where
 turn:Turn (λb=>b=m) w wr
 set:ax_ 9 VS if_ wr m (l.take k)
 ok:be_ [] (l.take k)=true
theorem Gc_ (l:List ByteArray) (d:∀s,s∈l->VS s) (ca:Addr) (m:Nat) (F:Nat->Prop) (A:Option Addr) (n P:Nat) (w:World) (M:∀g,F g->g<w.heap.size/\g≠m) (z:SRd 1 TxR w F l A n) (hn:n<=10000000)
    (G:w.cell? ca=some (.map (some m))) (t:ca.block<w.heap.size/\ca.block≠m) (O:ax_ 9 VS if_ w m []) :
    Calls Tryz.prog 147 #[.slice A n P,.func (.func 86) #[] #[.pointer (some ca)]] w (La_ m l w):=by
 have R:=q_ z;have N:=q_ M;have C:=q_ d;have U:=q_ G;have S:=q_ O;have v:=q_ z.1;clear z M d G O;obtain⟨lb,i⟩:=a_ (be_ [] l);have I:=q_ (λ(k:Nat) (x:ByteArray) (a:l[k]?=some x) (h:(aw_ x && !inB (l.take k) x)=false)=>i.o.symm.trans (Jc_ a h));unfold La_;rw[i.o];go_enter Tryz.func147,Tryz.ntmps147
 go_wp2_with fail;go_loopw [8] (λB wr=>∃k:Nat,k<=n/\B = .int .i64 (k:Nat)/\Q_ (Ml_ w m l k wr)) (λB _=>n-(intOf B).toNat)
 case atStart=>exact⟨0,by omega,rfl,q_ ⟨Turn.refl _ _,S.o,rfl⟩⟩
 case round=>
  obtain⟨k,Z,rfl,b⟩:=hrel;by_cases J:k<n
  ·obtain⟨x,a⟩:∃x,l[k]?=some x:=⟨l[k]'(by rw[<-v.o];exact J),List.getElem?_eq_getElem _⟩;have W:=q_ a;obtain⟨ad,rfl,_,c0⟩:=Gb_ (R.o.keep TxR.good (w':=wr) (λp L=>b.o.turn.cell (N.o _ L).1 (N.o _ L).2)) a;have f:=q_ (Ga_ ca m (l.take k) x (C.o x (List.mem_of_getElem? a)) (by simp;omega) wr ((b.o.turn.cell t.1 t.2).trans U.o) b.o.set);have u:=q_ (I.o k x a);have c:=q_ (λh=>F9_ a h b.o.ok);unfold K9_ at f;obtain⟨r,T⟩:=a_ (aw_ x && !inB (l.take k) x);rw[T.o]at f u c;have e1:(0:Int)<=k:=by omega
   have e2:(k:Int)<n:=by omega
   clear a;go_wp2_with fail;refine f.o.mono ?_;rintro e w2 ⟨rfl,j,ht⟩;have E:=q_ (b.o.turn.trans ht);have D:=q_ j;clear j ht
   cases r with
   | true=>
    have X:=q_ (c.o rfl);have Y:IntKind.i64.wrap ((k:Int)+1)=(k:Int)+1:=IntWalk.i64_in _ (by omega);go_wp2_with fail;go_roundw
    case rel=>exact⟨k+1,by omega,by go_num,q_ ⟨E.o,by rw[g_ W.o];exact D.o (by trivial),X.o⟩⟩
    case measure=>simp[intOf];omega
   | false=>
    have y:=q_ (u.o rfl);go_wp2_with fail;go_ret;exact⟨(k:Int),rfl,by rw[y.o];simp,E.o⟩
  ·have q:k=n:=by omega
   have y:=q_ (show lb=true from by have h:=b.o.ok;rw[List.take_of_length_le (by rw[q,v.o];exact Nat.le_refl _),i.o]at h;exact h);subst q;go_wp2_with fail;go_ret;exact⟨-1,rfl,by rw[y.o];simp,b.o.turn⟩
def x9_ (m:Nat) (l:List ByteArray) (w:World) (e:Ending) (w':World):Prop:=e = .returned (.bool (!be_ [] l))/\Turn (λb=>b=m) w w'
theorem B6_ (l:List ByteArray) (a:∀s,s∈l->VS s) (ca:Addr) (m:Nat) (F:Nat->Prop) (A:Option Addr) (n c:Nat) (w:World) (j:∀g,F g->g<w.heap.size/\g≠m) (i:SRd 1 TxR w F l A n) (t:n<=10000000)
    (f:w.cell? ca=some (.map (some m))) (b:ca.block<w.heap.size/\ca.block≠m) (h:ax_ 9 VS if_ w m []) :
    Calls Tryz.prog 85 #[.slice A n c,.func (.func 86) #[] #[.pointer (some ca)]] w (x9_ m l w):=by
 have d:=q_ (Gc_ l a ca m F A n c w j i t f b h);clear i j a h f b;unfold La_ at d;unfold x9_;obtain⟨lb,p⟩:=a_ (be_ [] l);rw[p.o]at d ⊢;go_enter Tryz.func85,Tryz.ntmps85
 go_wp2_with fail;refine d.o.mono ?_;rintro e v ⟨q,rfl,k,hb⟩;have r:=q_ k;have u:=q_ hb;clear k hb;go_wp2_with fail;go_ret;exact⟨by rw[<-r.o];rfl,u.o⟩
end
end Go.Proofs.YtefhfadjajcmkaaGreatDoor
