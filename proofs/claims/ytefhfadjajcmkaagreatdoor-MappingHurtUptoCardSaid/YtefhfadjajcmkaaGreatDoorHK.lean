/- CopyGraph: a copy in memory of its own. -/
import Derived.Test.YtefhfadjajcmkaaGreatDoorHJ
import Derived.Laws.AppendOwnNone
set_option linter.unusedVariables false
set_option linter.unusedSimpArgs false
set_option maxRecDepth 100000
set_option maxHeartbeats 64000000
namespace Go.Proofs.YtefhfadjajcmkaaGreatDoor
open Go Go.RowKit
open Go.Lib (cell_of_heap)
theorem wa_ (v:h_) (q:U_ v<=2000000) (F:Nat->Prop) (u:Value) (w:World) (p:∀g,F g->g<w.heap.size) (j:VRd w F v u) :
    Calls Tryz.prog 44 #[u] w (F1_ v w):=by
 obtain⟨A,b,rfl,_,o⟩:=j.inv;have hz:=fj_ v;refine (qy_ v A b w p o (λw' h1 h=>Di_ (af_ v.list+1) v.list (by omega) (by omega) F A _ b w' h h1)).mono ?_;rintro e w' ⟨s,rfl,hb,m⟩;obtain⟨B,cb,rfl,f,d⟩:=m.rd;exact⟨B,cb,rfl,hb,VRd.of_list f d⟩
def Iu_ (l:List C_) (w:World) (e:Ending) (w':World):Prop:=
 ∃s,e = .returned s/\Below w.heap.size w w'/\x_ 69 7 PaR w' (λb=>w.heap.size<=b/\b<w'.heap.size) l s
def Iv_ (l:List ByteArray) (w:World) (e:Ending) (w':World):Prop:=
 ∃s,e = .returned s/\Below w.heap.size w w'/\x_ 9 1 TxR w' (λb=>w.heap.size<=b/\b<w'.heap.size) l s
theorem Ca_ (l:List ByteArray) (F:Nat->Prop) (A:Option Addr) (n u:Nat) (hn:n<=10000000) (w:World) (B:∀g,F g->g<w.heap.size) (r:SRd 1 TxR w F l A n) :
    Calls Tryz.prog 80 #[.slice A n u] w (Iv_ l w):=by
 have q:=q_ r.1;have HF:=q_ B
 cases A with
 | none=>
  have h0:l=[]:=by
   rcases Nat.eq_zero_or_pos n with h | h
   ·exact List.eq_nil_of_length_eq_zero (by rw[<-q.o,h])
   ·obtain⟨ad,e,_⟩:=r.2 h
    cases e
  have D:n=0:=by rw[q.o,h0];rfl
  subst D;have V:=q_ h0;clear r B h0;go_enter Tryz.func80,Tryz.ntmps80
  go_wp2_with fail;go_ret;rw[V.o];exact⟨.slice none 0 0,rfl,Below.refl _ _,x_.nil _ _ _ _ _⟩
 | some ad=>
  obtain⟨cs,p⟩:=r.fn;have f:∀i,i<n->∃x,l[i]?=some x:=λi hi=>⟨l[i]'(by rw[<-q.o];exact hi),List.getElem?_eq_getElem _⟩;have C:=q_ (λi (hi:i<n)=>by obtain⟨x,m⟩:=f i hi;exact (show (cs i).size=1 from (p i x m).2.1));have h1:=q_ (pj_ (n:=n) (cs:=cs) λi hi=>by obtain⟨x,m⟩:=f i hi;exact TxR.one (p i x m).2.2.2)
  have t:=q_ (kb_ (w:=w) (ad:=ad) C.o (λi hi j N=>by
   obtain⟨x,m⟩:=f i hi;obtain⟨g1,_,L,_⟩:=p i x m;exact L j N) (by decide))
  have Z:=q_ (λi x m=>(p i x m).2.2.2);clear r B p f;obtain⟨O,hi,G,J,I⟩:=info_parts hg_;have v:=q_ (World.ownsRow_nil w w.heap.size 9 1);go_enter Tryz.func80,Tryz.ntmps80
  go_wp2_with (at_builtin;refine wpList_append_own _ rfl _ _ 67 rfl w.heap.size 9 O (.string ⟨#[]⟩) 1 16 Tryz.underlying67 hi G J I rfl (by decide) (.slice none 0 0) 0 [] rfl v.o ad n u (I_ cs n) rfl (al_ C.o) t.o h1.o (by unfold maxLen;omega) (by omega) (Nat.le_refl _) ?_;intro X w1 b d y;have Y:=q_ b;have T:=q_ d;clear b d y)
  go_ret;have b:=Y.o;have d:=T.o;simp only[Nat.zero_add,List.nil_append]at b;have W:Below w.heap.size w w1:=(Below.refl _ w).grown d (Nat.le_refl _) (by intro k U;simp[Value.ownBlock]at U);refine⟨X,rfl,W,cs,by rw[<-q.o];exact n4_ b (Nat.zero_le _),λi hi=>C.o i (by rw[q.o];exact hi),λg M=>b.lt g M,λi x m=>?_⟩;exact Z.o i x m
theorem ro_ (l:List C_) (V:∀p,p∈l->vs_ p) (ah:l.length<=2000000) (F:Nat->Prop) (A:Option Addr) (n ak:Nat) (w:World) (hF:∀g,F g->g<w.heap.size) (hl:SRd 7 PaR w F l A n) :
    Calls Tryz.prog 81 #[.slice A n ak] w (Iu_ l w):=by
 have HL:=q_ hl;have HF:=q_ hF;have ae:=q_ V;have X:=q_ hl.1;have b5:n<=2000000:=by rw[hl.1];exact ah
 clear hl hF V;go_enter Tryz.func81,Tryz.ntmps81
 go_wp2_with fail;go_loopw [3,4] (λs3 s8 wr=>∃k:Nat,k<=n/\s8 = .int .i64 (k:Nat)/\Q_ (Below w.heap.size w wr)/\Q_ (x_ 69 7 PaR wr (λb=>w.heap.size<=b/\b<wr.heap.size) (l.take k) s3)) (λ_ s8 _=>n-(intOf s8).toNat)
 case atStart=>exact⟨0,by omega,rfl,q_ (Below.refl _ _),q_ (x_.nil ..)⟩
 case round=>
  obtain⟨k,hk,rfl,Z,T⟩:=hrel;by_cases aq:k<n
  ·obtain⟨x,hx⟩:∃x,l[k]?=some x:=⟨l[k]'(by rw[<-X.o];exact aq),List.getElem?_eq_getElem _⟩;have HX:=q_ hx;have am:=q_ (ae.o x (List.mem_of_getElem? hx));have a3:(l.take k).length=k:=by rw[List.length_take];have:=X.o;omega
   obtain⟨A3,c3,W⟩:=T.o.form;rw[a3]at W;subst W;have L:=q_ a3;obtain⟨ad,s,rfl,aa,hv,c0,c1,c2,a8,c4,c5,c6⟩:=tj_ (HL.o.under PaR.good Z.o HF.o) hx;obtain⟨B,cb,J,_,_⟩:=hv.inv;injection J with J;obtain rfl:s = .slice B x.v.list.length cb:=by have:=congrArg (λa:Array Value=>a[5]?) J;simpa [c_] using this
   have HV:=q_ hv;clear hx hv J a3;obtain⟨D,C⟩:=a_ x.v.list.length;rw[C.o]at c6 HV;obtain⟨z,Hz⟩:=a_ wr.heap.size;obtain⟨w5,d⟩:=a_ wr;have t:=q_ (show Below wr.heap.size wr w5 from by rw[<-d.o];exact Below.refl _ _);have ap:=q_ (show w5.heap.size=z from by rw[<-d.o,<-Hz.o]);have av:=q_ (show ad.block<w5.heap.size from by rw[<-d.o];exact Nat.lt_of_lt_of_le (HF.o _ aa) Z.o.size);have e1:(0:Int)<=k:=by omega
   have e2:(k:Int)<n:=by omega
   go_upto_region 5 with fail;rw[d.o];have a0:w.heap.size<=wr.heap.size:=Z.o.size;have a7:=q_ (wa_ x.v am.o.2 F _ w5.drew (λg Y=>Nat.lt_of_lt_of_le (HF.o g Y) (Nat.le_trans a0 t.o.size)) ((HV.o.under t.o (λg Y=>Nat.lt_of_lt_of_le (HF.o g Y) a0)).drewN 1));unfold c_ at a7;have az:=q_ c0;have d0:w5.drew.cell? (ad.add (k*7))=some (.string x.key):=by rw[<-d.o];exact c0
   have d1:w5.drew.cell? ⟨(ad.add (k*7)).block,(ad.add (k*7)).off+1,none⟩=some (.int .i64 x.v.kind):=by rw[<-d.o];exact c1
   have d2:w5.drew.cell? ⟨(ad.add (k*7)).block,(ad.add (k*7)).off+2,none⟩=some (.bool x.v.truth):=by rw[<-d.o];exact c2
   have d3:w5.drew.cell? ⟨(ad.add (k*7)).block,(ad.add (k*7)).off+3,none⟩=some (.int .i64 x.v.num):=by rw[<-d.o];exact a8
   have d4:w5.drew.cell? ⟨(ad.add (k*7)).block,(ad.add (k*7)).off+4,none⟩=some (.string x.v.text):=by rw[<-d.o];exact c4
   have d5:w5.drew.cell? ⟨(ad.add (k*7)).block,(ad.add (k*7)).off+5,none⟩=some (.string x.v.extra):=by rw[<-d.o];exact c5
   have d6:w5.drew.cell? ⟨(ad.add (k*7)).block,(ad.add (k*7)).off+6,none⟩=some (.slice B D cb):=by rw[<-d.o];exact c6
   obtain⟨cs,q,O,j,hr⟩:=(T.o.turn PaR.good (Turn.of_below t.o) (λb hb=>hb.2) (λb hb h=>by obtain⟨_,h1⟩:=hb;omega));rw[L.o]at q O;have ab:=q_ q;have N:=q_ (And.intro O (And.intro j hr));clear c0 c1 c2 a8 c4 c5 c6 q O j hr aa;obtain⟨i0,aw,af,ac,ai⟩:=info_parts lb_;go_region_law (first | (refine step_append_lies _ rfl _ _ 70 rfl 0 69 i0 (.agg #[.string ⟨#[]⟩,.int .i64 0,.bool false,.int .i64 0,.string ⟨#[]⟩,.string ⟨#[]⟩,.slice none 0 0]) 7 96 Tryz.underlying70 aw af ac ai rfl (by decide) (.slice A3 k c3) k (I_ cs k) rfl (by exact a4.o.alloc _) ⟨w6.heap.size,0,none⟩ 1 1 [.string x.key,.int .i64 x.v.kind,.bool x.v.truth,.int .i64 x.v.num,.string x.v.text,.string x.v.extra,.slice I D m] rfl rfl (World.news_of_block (cs:=#[.string x.key,.int .i64 x.v.kind,.bool x.v.truth,.int .i64 x.v.num,.string x.v.text,.string x.v.extra,.slice I D m]) (by exact NB.o)) ag.o (by omega) (by unfold maxLen;omega) (by omega) (Nat.zero_le _) (w6.heap.size+1) (by exact au.o) (λg7 c7 w7 r f a6 _=>?_);have ay:=q_ r;have U:=q_ (show w6.grownBy w7 (Value.slice A3 k c3).ownBlock from aa_ (w:=w6) (o:=.cells #[.string x.key,.int .i64 x.v.kind,.bool x.v.truth,.int .i64 x.v.num,.string x.v.text,.string x.v.extra,.slice I D m] 69) ⟨f.os,f.tape,f.output,f.size,f.block⟩);have a5:=q_ (show (Value.slice A3 k c3).ownBlock=some g7\/g7=w6.heap.size+1 from a6);clear r f a6) | (go_simp;go_at_call 44;(with_reducible refine a7.o.mono ?_);rintro e w6 ⟨I,m,rfl,M,a1⟩;rw[C.o]at a1;unfold c_;rw[C.o];have a2:=q_ M;have aj:=q_ a1;have a4:=q_ ((Turn.of_below M).owns ab.o (λg Y h=>by have:=N.o.2.1 g Y;have h2:w5.heap.size<=g:=h;have:=t.o.size;omega));have b3:w6.cell? (ad.add (k*7))=some (.string x.key):=(M.cell (p:=ad.add (k*7)) (by rw[block_of_add];exact av.o)).trans (by rw[<-d.o];exact az.o);have ag:=q_ (show ∀u∈([.string x.key,.int .i64 x.v.kind,.bool x.v.truth,.int .i64 x.v.num,.string x.v.text,.string x.v.extra,.slice I D m]:List Value),u.oneCell'=true from λu J=>by simp at J;rcases J with rfl | rfl | rfl | rfl | rfl | rfl | rfl<;>rfl);have NB:=q_ (heap_alloc_new w6 (.cells #[.string x.key,.int .i64 x.v.kind,.bool x.v.truth,.int .i64 x.v.num,.string x.v.text,.string x.v.extra,.slice I D m] 69));have au:=q_ (show (w6.alloc (.cells #[.string x.key,.int .i64 x.v.kind,.bool x.v.truth,.int .i64 x.v.num,.string x.v.text,.string x.v.extra,.slice I D m] 69)).heap.size=w6.heap.size+1 by simp);clear M a1))
   all_goals (
    have w1:IntKind.i64.wrap ((k:Int)+1)=(k:Int)+1:=IntWalk.i64_in _ (by omega);go_wp2_with fail;go_roundw)
   all_goals first
    | (case measure=>simp[intOf];omega)
    | (case rel=>
        obtain⟨O,j,hr⟩:=N.o;have b2:w5.heap.size<=w6.heap.size:=a2.o.size;have b4:w6.heap.size<=w7.heap.size:=U.o.size;have b0:=ap.o;have hz:=Hz.o;have r:=ay.o;have f:g7<w7.heap.size:=(r.lt g7 rfl).2
        have a9:=g9_ (w5:=w6) (w6:=w7) (R:=PaR) (E:=69) (sz:=7) (F:=λb=>w.heap.size<=b/\b<wr.heap.size) (G:=λb=>w5.heap.size<=b/\b<w6.heap.size) (l:=l.take k) (x:=x) (s:=.slice A3 k c3) (c:=b3_ x (.slice I x.v.list.length m)) (g4:=g7) (c4:=c7) (cs:=cs) PaR.good
         (λi hi=>O i (by rw[L.o]at hi;exact hi)) (λi y hy=>PaR.good.keep (hr i y hy) (λp hp=>a2.o.cell (show p.block<w5.heap.size from by have:=hp.1.2;omega)))
         ⟨_,rfl,by rw[C.o];exact aj.o⟩ rfl (λb hb e=>by have:=(j b e).2;have:=hb.1;omega) (λb hb=>by have:=hb.2;omega) (λb hb=>hb.2) (by rw[L.o];unfold b3_;rw[C.o];exact r) U.o (by rcases a5.o with e | e;exact .inl e;exact .inr (by omega))
        rw[L.o]at a9;refine⟨k+1,by omega,by go_num,q_ ?_,q_ ?_⟩
        ·exact ((Z.o.trans (t.o.mono (by omega))).trans ((bd_ a2.o).mono (show w.heap.size<=w5.heap.size from by omega))).trans ((Turn.of_grown U.o).below (λb _ hb=>(j b hb.symm).1) (by omega))
        ·rw[f_ HX.o];refine a9.mono PaR.good λb hb=>?_;rcases hb with hb | hb | hb
         ·exact⟨hb.1,by have:=hb.2;omega⟩
         ·exact⟨by have:=hb.1;omega,by have:=hb.2;omega⟩
         ·subst hb;refine⟨?_,f⟩;rcases a5.o with h | h
          ·exact (j b h).1
          ·omega)
  ·have ar:k=n:=by omega
   subst ar;have ao:=q_ (show l.take k=l from List.take_of_length_le (by rw[X.o];exact Nat.le_refl _));obtain⟨A3,c3,W⟩:=T.o.form;rw[ao.o]at T W;subst W;obtain⟨cs,q,O,j,b1⟩:=T.o;go_wp2_with fail;go_ret;exact⟨_,rfl,Z.o,T.o⟩
structure yc_ {α : Type} (le:α -> α -> Prop) (l:List α) (i:Nat) (c:List α):Prop where
 perm:c.Perm l
 rest:∀j,i<=j->c[j]?=l[j]?
 srt:∀p q x y,p<q->q<i->c[p]?=some x->c[q]?=some y->le x y
structure Lz_ {α : Type} (le:α -> α -> Prop) (l:List α) (i k:Nat) (c:List α):Prop where
 perm:c.Perm l
 rest:∀j,i<j->c[j]?=l[j]?
 srt:∀p q x y,p<q->q<=i->p≠k->q≠k->c[p]?=some x->c[q]?=some y->le x y
 beh:∀q x y,k<q->q<=i->c[k]?=some x->c[q]?=some y->le x y
section
variable {α : Type} {le:α -> α -> Prop} {l c:List α} {i k:Nat}
theorem yc_.zero:yc_ le l 0 l:=⟨List.Perm.refl _,λ_ _=>rfl,λ_ _ _ _ _ h=>absurd h (Nat.not_lt_zero _)⟩
theorem yc_.one:yc_ le l 1 l:=⟨List.Perm.refl _,λ_ _=>rfl,λ_ _ _ _ h b=>by omega⟩
theorem Lz_.low (h:Lz_ le l i 0 c):yc_ le l (i+1) c:=by
 refine⟨h.perm,λj f=>h.rest j (by omega),λp q x y h1 g b d=>?_⟩;by_cases e:p=0
 ·subst e;exact h.beh q x y h1 (by omega) b d
 ·exact h.srt p q x y h1 (by omega) e (by omega) b d
theorem yc_.done {n:Nat} (h:yc_ le l n c) (f:l.length<=n):c.Perm l/\c.Pairwise le:=by refine⟨h.perm,List.pairwise_iff_getElem.2 λp q e d b=>?_⟩;exact h.srt p q _ _ b (by rw[h.perm.length_eq]at d;omega) (List.getElem?_eq_getElem e) (List.getElem?_eq_getElem d)
end
structure bi_.GoodT {α : Type} (R:bi_ α):Prop where
 turn:∀{S:Nat->Prop} {w w':World} {F:Nat->Prop} {x:α} {c:Array Value},R w F x c->Turn S w w'->(∀b,F b->b<w.heap.size)->(∀b,F b->¬S b)->R w' F x c
 mono:∀{w:World} {F F':Nat->Prop} {x:α} {c:Array Value},R w F x c->(∀g,F g->F' g)->R w F' x c
theorem bi_.Good.t {α : Type} {R:bi_ α} (h:R.Good):R.GoodT:=⟨λd f g e=>h.keep d λ_ b=>f.cell (g _ b) (e _ b),h.mono⟩
structure da_ {α : Type} (E sz:Nat) (R:bi_ α) (w:World) (lo hi:Nat) (l:List α) (A:Option Addr) (n cp:Nat) (cs:Nat->Array Value) (a:Nat->Nat):Prop where
 row:w.ownsRow 0 E sz (.slice A n cp) n (I_ cs n)
 len:l.length=n
 sz:∀i,i<n->(cs i).size=sz
 own:∀g,(Value.slice A n cp).ownBlock=some g->lo<=g/\g<hi
 up:∀i j,i<=j->a i<=a j
 lo_:lo<=a 0
 hi_:a n<=hi
 top:hi<=w.heap.size
 el:∀i x,l[i]?=some x->R w (λb=>a i<=b/\b<a (i+1)/\(Value.slice A n cp).ownBlock≠some b) x (cs i)
def db_ {α : Type} (E sz:Nat) (R:bi_ α) (w:World) (lo hi:Nat) (l:List α) (s:Value):Prop:=∃A cp cs a,s = .slice A l.length cp/\da_ E sz R w lo hi l A l.length cp cs a
section
variable {α : Type} {R:bi_ α} {E sz lo hi n cp:Nat} {w w':World} {l:List α} {A:Option Addr} {cs:Nat->Array Value} {a:Nat->Nat} {s:Value}
theorem da_.turn {S:Nat->Prop} (o:R.GoodT) (h:da_ E sz R w lo hi l A n cp cs a) (e:Turn S w w') (f:∀b,lo<=b->b<hi->¬S b):da_ E sz R w' lo hi l A n cp cs a:=by
 refine⟨e.owns h.row (λg m=>f g (h.own g m).1 (h.own g m).2),h.len,h.sz,h.own,h.up,h.lo_,h.hi_,Nat.le_trans h.top e.size,λi x d=>o.turn (h.el i x d) e (λb hb=>?_) (λb hb=>?_)⟩
 ·have j:=b8_ d;have:=h.up (i+1) n (by have:=h.len;omega);have:=h.hi_;have:=h.top;omega
 ·have j:=b8_ d;have:=h.up (i+1) n (by have:=h.len;omega);have:=h.up 0 i (by omega);have:=h.hi_;have:=h.lo_;exact f b (by omega) (by omega)
theorem da_.wide {b:Nat} (h:da_ E sz R w lo hi l A n cp cs a) (e:hi<=b) (f:b<=w.heap.size):da_ E sz R w lo b l A n cp cs a:=
 ⟨h.row,h.len,h.sz,λg d=>⟨(h.own g d).1,Nat.lt_of_lt_of_le (h.own g d).2 e⟩,h.up,h.lo_,Nat.le_trans h.hi_ e,f,h.el⟩
theorem db_.turn {S:Nat->Prop} (g:R.GoodT) (h:db_ E sz R w lo hi l s) (f:Turn S w w') (d:∀b,lo<=b->b<hi->¬S b):db_ E sz R w' lo hi l s:=by obtain⟨A,cp,cs,a,e,h⟩:=h;exact⟨A,cp,cs,a,e,h.turn g f d⟩
theorem db_.wide {b:Nat} (h:db_ E sz R w lo hi l s) (f:hi<=b) (d:b<=w.heap.size):db_ E sz R w lo b l s:=by obtain⟨A,cp,cs,a,e,h⟩:=h;exact⟨A,cp,cs,a,e,h.wide f d⟩
theorem db_.low {b:Nat} (h:db_ E sz R w lo hi l s) (f:b<=lo):db_ E sz R w b hi l s:=by obtain⟨A,cp,cs,a,e,h⟩:=h;exact⟨A,cp,cs,a,e,h.row,h.len,h.sz,λg d=>⟨Nat.le_trans f (h.own g d).1,(h.own g d).2⟩,h.up,Nat.le_trans f h.lo_,h.hi_,h.top,h.el⟩
theorem db_.nil (b:lo<=hi) (d:hi<=w.heap.size):db_ E sz R w lo hi [] (.slice none 0 0):=
 ⟨none,0,λ_=>#[],λ_=>lo,rfl,World.ownsRow_nil ..,rfl,(λ_ h=>absurd h (Nat.not_lt_zero _)),(λg f=>by cases f),λ_ _ _=>Nat.le_refl _,Nat.le_refl _,b,d,λi x e=>by simp at e⟩
theorem db_.sown (e:R.GoodT) (h:db_ E sz R w lo hi l s):x_ E sz R w (λb=>lo<=b/\b<hi) l s:=by obtain⟨A,cp,cs,a,rfl,h⟩:=h;refine⟨cs,h.row,h.sz,h.own,λi x d=>e.mono (h.el i x d) λb hb=>?_⟩;have f:=b8_ d;have:=h.up (i+1) l.length (by omega);have:=h.up 0 i (by omega);have:=h.hi_;have:=h.lo_;exact⟨⟨by omega,by omega⟩,hb.2.2⟩
theorem da_.put {q j k:Nat} {w5 w6 w7:World} {x:α} {c:Array Value} {g7 c7:Nat} {v:Value} (o:R.GoodT) (hq:q<lo) (h:da_ E sz R w5 lo w5.heap.size l A k cp cs a)
    (C:Below w5.heap.size w5 w6) (O:R w6 (λb=>w5.heap.size<=b/\b<w6.heap.size) x c) (U:c.size=sz) (t:w6.grownBy w7 (Value.slice A k cp).ownBlock) (G:(Value.slice A k cp).ownBlock=some g7\/w6.heap.size<=g7)
    (N:w7.ownsRow 0 E sz (.slice (some ⟨g7,0,none⟩) (k+1) c7) (k+1) (I_ cs k++c.toList)) :
    db_ E sz R (w7.setCell ⟨q,j,none⟩ v) lo (w7.setCell ⟨q,j,none⟩ v).heap.size (l++[x]) (.slice (some ⟨g7,0,none⟩) (k+1) c7)/\Turn (λb=>some b=(Value.slice A k cp).ownBlock\/b=q) w6 (w7.setCell ⟨q,j,none⟩ v):=by
 have W:w5.heap.size<=w6.heap.size:=C.size;have a1:w6.heap.size<=w7.heap.size:=t.size;have X:g7<w7.heap.size:=(N.lt g7 rfl).2;have f:=h.len
 have a2:lo<=g7:=by
  rcases G with e | e
  ·exact (h.own g7 e).1
  ·have:=h.lo_;have:=h.up 0 k (by omega);have:=h.hi_;omega
 have D:Turn (λb=>some b=(Value.slice A k cp).ownBlock\/b=q) w6 (w7.setCell ⟨q,j,none⟩ v):=
  ((Turn.of_grown t).mono (λb _ hb=>.inl hb)).trans (((Turn.refl (λb=>b=q) w7).setCell (p:=⟨q,j,none⟩) (.inr rfl) v).mono (λb _ hb=>.inr hb))
 have J:(w7.setCell ⟨q,j,none⟩ v).heap.size=w7.heap.size:=by simp
 refine⟨⟨some ⟨g7,0,none⟩,c7,λi=>if i=k then c else cs i,λi=>if i<=k then a i else w7.heap.size,by simp[f],?_⟩,D⟩
 have u:(l++[x]).length=k+1:=by simp[f]
 rw[u];refine⟨?_,u,λi hi=>?_,λg B=>?_,λi j I=>?_,?_,?_,Nat.le_refl _,λi y r=>?_⟩
 ·rw[c8_,gd_ (ds:=cs) (λi hi=>if_neg (by omega)),if_pos rfl]
  exact ((Turn.refl (λb=>b=q) w7).setCell (p:=⟨q,j,none⟩) (.inr rfl) v).owns N (λg t e=>by have t:g7=g:=by injection t
                                                                                           omega)
 ·show (if i=k then c else cs i).size=sz
  by_cases e:i=k
  ·rw[if_pos e];exact U
  ·rw[if_neg e];exact h.sz i (by omega)
 ·have B:g7=g:=by injection B
  omega
 ·show (if i<=k then a i else w7.heap.size)<=(if j<=k then a j else w7.heap.size)
  by_cases d:j<=k
  ·rw[if_pos d,if_pos (by omega)];exact h.up i j I
  ·rw[if_neg d];by_cases F:i<=k
   ·rw[if_pos F];have:=h.up i k F;have:=h.hi_;omega
   ·rw[if_neg F];exact Nat.le_refl _
 ·show lo<=if 0<=k then a 0 else w7.heap.size
  rw[if_pos (Nat.zero_le _)];exact h.lo_
 ·show (if k+1<=k then a (k+1) else w7.heap.size)<=_
  rw[if_neg (by omega),J];exact Nat.le_refl _
 ·have L:=b8_ r;rw[u]at L;by_cases e:i=k
  ·subst e;have M:y=x:=by rw[List.getElem?_append_right (by omega),f,Nat.sub_self]at r;simpa using r.symm
   subst M;show R _ (λb=>(if i<=i then a i else w7.heap.size)<=b/\b<(if i+1<=i then a (i+1) else w7.heap.size)/\_) y (if i=i then c else cs i)
   rw[if_pos rfl,if_pos (Nat.le_refl _),if_neg (by omega)];refine o.mono (o.turn O D (λb hb=>hb.2) (λb hb d=>?_)) λb hb=>⟨?_,by omega,λd=>?_⟩
   ·rcases d with d | d
    ·have:=(h.own b d.symm).2;omega
    ·have:=h.lo_;have:=h.up 0 i (by omega);have:=h.hi_;omega
   ·have:=h.hi_;omega
   ·have d:g7=b:=by injection d
    rcases G with m | m
    ·have:=(h.own g7 m).2;omega
    ·omega
  ·have Z:i<k:=by omega
   rw[List.getElem?_append_left (by omega)]at r;show R _ (λb=>(if i<=k then a i else w7.heap.size)<=b/\b<(if i+1<=k then a (i+1) else w7.heap.size)/\_) y (if i=k then c else cs i)
   rw[if_neg e,if_pos (show i<=k by omega),if_pos (show i+1<=k by omega)];have h1:=h.el i y r;have a0:=h.up (i+1) k (by omega);have Y:=h.up 0 i (by omega);have a3:=h.hi_;have V:=h.lo_;have T:=o.turn h1 (Turn.of_below C) (λb hb=>by omega) (λb hb d=>by omega);refine o.mono (o.turn T D (λb hb=>by omega) (λb hb d=>?_)) λb hb=>⟨hb.1,hb.2.1,λd=>?_⟩
   ·rcases d with d | d
    ·exact hb.2.2 d.symm
    ·omega
   ·have d:g7=b:=by injection d
    rcases G with m | m
    ·exact hb.2.2 (by rw[m,d])
    ·omega
end
def NoO:bi_ i_:=λw F n c=>∃L P m,c=#[.int .i64 n.id,L,P]/\x_ 9 1 TxR w (λb=>F b/\b<m) n.labels L/\x_ 69 7 PaR w (λb=>F b/\m<=b) n.props P
theorem NoO.good:NoO.GoodT:=
 ⟨fun⟨L,P,m,e,h1,h2⟩ ht hl hS=>⟨L,P,m,e,h1.turn TxR.good ht (λb hb=>hl b hb.1) (λb hb=>hS b hb.1),h2.turn PaR.good ht (λb hb=>hl b hb.1) (λb hb=>hS b hb.1)⟩,
  fun⟨L,P,m,e,h1,h2⟩ hF=>⟨L,P,m,e,h1.mono TxR.good (λb hb=>⟨hF b hb.1,hb.2⟩),h2.mono PaR.good (λb hb=>⟨hF b hb.1,hb.2⟩)⟩⟩
def EdO:bi_ l_:=λw F e c=>∃P,c=#[.int .i64 e.id,.int .i64 e.src,.int .i64 e.dst,.string e.type,P]/\x_ 69 7 PaR w F e.props P
theorem EdO.good:EdO.GoodT:=
 ⟨fun⟨P,e,h⟩ ht hl hS=>⟨P,e,h.turn PaR.good ht hl hS⟩,fun⟨P,e,h⟩ hF=>⟨P,e,h.mono PaR.good hF⟩⟩
theorem NoO.rd {w:World} {F:Nat->Prop} {n:i_} {c:Array Value} (h:NoO w F n c):NoR w F n c:=by obtain⟨L,P,m,e,h1,d⟩:=h;exact⟨L,P,e,(h1.rd TxR.good).mono TxR.good (λb hb=>hb.1),(d.rd PaR.good).mono PaR.good (λb hb=>hb.1)⟩
theorem EdO.rd {w:World} {F:Nat->Prop} {n:l_} {c:Array Value} (h:EdO w F n c):EdR w F n c:=by obtain⟨P,e,h1⟩:=h;exact⟨P,e,h1.rd PaR.good⟩
structure es_ (p:Prop):Prop where
 o :p
section
variable {P:Program} {md:Region.Mode} {ops:Array Oper} {Q:Exit->Act->World->Prop} {S:World->Prop} {fuel:Nat} {listed:Array Bool} {a:Act} {w:World}
def ap_ (P:Program) (ops:Array Oper) (i:Nat) (a:Act) (w:World) (v:Value):Prop:=
 match ops[i]? with
 | some o=>(execOp a.eval o).run P w = .ok (.value v) w
 | none=>False
def ao_ (P:Program) (ops:Array Oper) (i:Nat) (a:Act) (w:World) (K:Act->World->Prop) (Q:Exit->Act->World->Prop):Prop:=
 match ops[i]? with
 | some o=>Oper.wp P o a w K Q
 | none=>False
def cv_ (ops:Array Oper) (i:Nat) (a:Act):Option Bool:=ops[i]?.map λo=>Region.wanted o (yielded ops a.tmps)
theorem Iw_ (i d:Nat) (v:Value) (e:ops[i]?.map (·.dst)=some (some d)) (b:cv_ ops i a=some true) (j:Region.noSelect ops=true) (g:Region.free md ops listed i=true) (p:(Region.ready md ops listed).contains i=true)
    (q:∀c a w,Q (.panic c) (a.put (some d) v) w->Q (.panic c) a w) (f:S w) (m:∀w,S w->ap_ P ops i a w v)
    (h:S w->es_ (wpAnyH P md ops Q S fuel (listed.setIfInBounds i true) (a.put (some d) v) w)):es_ (wpAnyH P md ops Q S (fuel+1) listed a w):=by
 unfold cv_ at b
 cases ho:ops[i]? with
 | none=>rw[ho]at e;cases e
 | some o=>
  rw[ho]at e b;simp only[Option.map_some,Option.some.injEq]at e b;exact⟨wpAnyH_take ho j g p (λc a w h=>q c a w (by rw[<-e];exact h)) (.inl ⟨b,λw b=>by have:=m w b;unfold ap_ at this;rw[ho]at this;exact this⟩) f (by rw[e];exact (h f).o)⟩
theorem Ix_ (i:Nat) (g:Region.ready md ops listed=[i]) (b:cv_ ops i a=some true)
    (h:∀e:Act->World->Prop,Shut (∀a w,S w->(S w->es_ (wpAnyH P md ops Q S fuel (listed.setIfInBounds i true) a w))->e a w)->ao_ P ops i a w e Q):es_ (wpAnyH P md ops Q S (fuel+1) listed a w):=by
 unfold cv_ at b
 cases ho:ops[i]? with
 | none=>rw[ho]at b;cases b
 | some o=>
  rw[ho]at b;simp only[Option.map_some,Option.some.injEq]at b;refine⟨wpAnyH_ready g (by simp) (AllReadyH.cons ho (λK j=>?_) AllReadyH.nil)⟩;rw[if_pos b];have:=h K (λa w d f=>j.out a w d (λd=>(f d).o));unfold ao_ at this;rw[ho]at this;exact this
theorem iy_ (i j:Nat) (q:Region.ready md ops listed=[i,j]) (b:cv_ ops i a=some true) (d:cv_ ops j a=some true)
    (hi:∀f:Act->World->Prop,Shut (∀a w,S w->(S w->es_ (wpAnyH P md ops Q S fuel (listed.setIfInBounds i true) a w))->f a w)->ao_ P ops i a w f Q)
    (m:∀f:Act->World->Prop,Shut (∀a w,S w->(S w->es_ (wpAnyH P md ops Q S fuel (listed.setIfInBounds j true) a w))->f a w)->ao_ P ops j a w f Q):es_ (wpAnyH P md ops Q S (fuel+1) listed a w):=by
 unfold cv_ at b d
 cases hoi:ops[i]? with
 | none=>rw[hoi]at b;cases b
 | some o=>
  cases hoj:ops[j]? with
  | none=>rw[hoj]at d;cases d
  | some p=>
   rw[hoi]at b;rw[hoj]at d;simp only[Option.map_some,Option.some.injEq]at b d;refine⟨wpAnyH_ready q (by simp) (AllReadyH.cons hoi (λK h=>?_) (AllReadyH.cons hoj (λK h=>?_) AllReadyH.nil))⟩
   ·rw[if_pos b];have:=hi K (λa w e g=>h.out a w e (λe=>(g e).o));unfold ao_ at this;rw[hoi]at this;exact this
   ·rw[if_pos d];have:=m K (λa w e g=>h.out a w e (λe=>(g e).o));unfold ao_ at this;rw[hoj]at this;exact this
end
structure Cg1 (w:World) (z:Nat) (ns:List i_) (Ns:Value) (wr:World):Prop where
 below:Below z w wr
 res:wr.heap[z]?=some (.cells #[.slice none 0 0,.slice none 0 0] 54 (0,0))
 box:wr.heap[z+1]?=some (.cells #[Ns,.slice none 0 0] 54 (0,0))
 own:db_ 72 3 NoO wr (z+2) wr.heap.size ns Ns
structure Cg2 (w:World) (z z2:Nat) (ns:List i_) (es:List l_) (Ns Es:Value) (wr:World):Prop where
 below:Below z w wr
 res:wr.heap[z]?=some (.cells #[.slice none 0 0,.slice none 0 0] 54 (0,0))
 box:wr.heap[z+1]?=some (.cells #[Ns,Es] 54 (0,0))
 nodes:db_ 72 3 NoO wr (z+2) z2 ns Ns
 own:db_ 74 5 EdO wr z2 wr.heap.size es Es
 loc:z+2<=z2/\z2<=wr.heap.size
section
variable {w:World} {z z2 k:Nat} {ns:List i_} {es:List l_} {Ns Es:Value} {wr w2 w5 w6 w7:World} {A3:Option Addr} {c3:Nat} {cs:Nat->Array Value} {a:Nat->Nat} {c:Array Value} {g7 c7:Nat}
theorem Cg1.on (h:Cg1 w z ns Ns wr) (hb:Below wr.heap.size wr w2):Cg1 w z ns Ns w2:=by have hz:=b_ h.box;exact⟨h.below.trans (hb.mono (by omega)),(hb.block _ (by omega)).trans h.res,(hb.block _ hz).trans h.box,(h.own.turn NoO.good (Turn.of_below hb) (λb _ hb h=>by omega)).wide hb.size (Nat.le_refl _)⟩
theorem Cg2.on (h:Cg2 w z z2 ns es Ns Es wr) (hb:Below wr.heap.size wr w2):Cg2 w z z2 ns es Ns Es w2:=by
 have hz:=b_ h.box;have d:=h.loc
 exact⟨h.below.trans (hb.mono (by omega)),(hb.block _ (by omega)).trans h.res,(hb.block _ hz).trans h.box,h.nodes.turn NoO.good (Turn.of_below hb) (λb _ hb h=>by omega),
  (h.own.turn EdO.good (Turn.of_below hb) (λb _ hb h=>by omega)).wide hb.size (Nat.le_refl _),d.1,Nat.le_trans d.2 hb.size⟩
theorem Cg1.next (h:Cg1 w z ns Ns wr):Cg2 w z wr.heap.size ns [] Ns (.slice none 0 0) wr:=by have hz:=b_ h.box;exact⟨h.below,h.res,h.box,h.own,db_.nil (Nat.le_refl _) (Nat.le_refl _),by omega,Nat.le_refl _⟩
theorem Cg1.more {x:i_} (h:Cg1 w z ns (.slice A3 k c3) w5) (p:da_ 72 3 NoO w5 (z+2) w5.heap.size ns A3 k c3 cs a)
    (d:Below w5.heap.size w5 w6) (t:NoO w6 (λb=>w5.heap.size<=b/\b<w6.heap.size) x c) (y:c.size=3) (o:w6.grownBy w7 (Value.slice A3 k c3).ownBlock) (D:(Value.slice A3 k c3).ownBlock=some g7\/w6.heap.size<=g7)
    (C:w7.ownsRow 0 72 3 (.slice (some ⟨g7,0,none⟩) (k+1) c7) (k+1) (I_ cs k++c.toList)) :
    Cg1 w z (ns++[x]) (.slice (some ⟨g7,0,none⟩) (k+1) c7) (w7.setCell ⟨z+1,0,none⟩ (.slice (some ⟨g7,0,none⟩) (k+1) c7)):=by
 have hz:=b_ h.box;have m:=h.on d;have F:w5.heap.size<=w6.heap.size:=d.size;have G:w6.heap.size<=w7.heap.size:=o.size;obtain⟨u,r⟩:=da_.put (q:=z+1) (j:=0) (v:=.slice (some ⟨g7,0,none⟩) (k+1) c7) NoO.good (by omega) p d t y o D C;have g:∀b,b<z+2->some b≠(Value.slice A3 k c3).ownBlock:=λb hb e=>by have:=(p.own b e.symm).1;omega
 refine⟨m.below.trans (r.below (B:=z) (λi _ hi=>?_) (by omega)),(r.block _ (by omega) (λf=>?_)).trans m.res,?_,u⟩
 ·rcases hi with hi | hi
  ·have:=(p.own i hi.symm).1;omega
  ·omega
 ·rcases f with f | f
  ·exact g _ (by omega) f
  ·omega
 ·exact heap_setCell_same w7 (z+1) 0 _ _ _ ((o.block (z+1) (by omega) (g _ (by omega))).trans m.box)
theorem Cg2.more {y:l_} (h:Cg2 w z z2 ns es Ns (.slice A3 k c3) w5) (t:da_ 74 5 EdO w5 z2 w5.heap.size es A3 k c3 cs a)
    (g:Below w5.heap.size w5 w6) (u:EdO w6 (λb=>w5.heap.size<=b/\b<w6.heap.size) y c) (C:c.size=5) (r:w6.grownBy w7 (Value.slice A3 k c3).ownBlock) (F:(Value.slice A3 k c3).ownBlock=some g7\/w6.heap.size<=g7)
    (D:w7.ownsRow 0 74 5 (.slice (some ⟨g7,0,none⟩) (k+1) c7) (k+1) (I_ cs k++c.toList)) :
    Cg2 w z z2 ns (es++[y]) Ns (.slice (some ⟨g7,0,none⟩) (k+1) c7) (w7.setCell ⟨z+1,1,none⟩ (.slice (some ⟨g7,0,none⟩) (k+1) c7)):=by
 have hz:=b_ h.box;have p:=h.loc;have m:=h.on g;have G:w5.heap.size<=w6.heap.size:=g.size;have J:w6.heap.size<=w7.heap.size:=r.size;obtain⟨x,o⟩:=da_.put (q:=z+1) (j:=1) (v:=.slice (some ⟨g7,0,none⟩) (k+1) c7) EdO.good (by omega) t g u C r F D;have f:∀b,b<z2->some b≠(Value.slice A3 k c3).ownBlock:=λb hb e=>by have:=(t.own b e.symm).1;omega
 refine⟨m.below.trans (o.below (B:=z) (λi _ hi=>?_) (by omega)),(o.block _ (by omega) (λd=>?_)).trans m.res,?_,m.nodes.turn NoO.good o (λb I hb d=>?_),x,p.1,by simp only[World.size_setCell];omega⟩
 ·rcases hi with hi | hi
  ·have:=(t.own i hi.symm).1;omega
  ·omega
 ·rcases d with d | d
  ·exact f _ (by omega) d
  ·omega
 ·exact heap_setCell_same w7 (z+1) 1 _ _ _ ((r.block (z+1) (by omega) (f _ (by omega))).trans m.box)
 ·rcases d with d | d
  ·exact f _ (by omega) d
  ·omega
end
def jg_ (G:u_) (w:World) (e:Ending) (w':World):Prop:=
 ∃(N E:Value) (z2:Nat),e = .returned (.agg #[N,E])/\Below w.heap.size w w'/\w.heap.size<=z2/\z2<=w'.heap.size/\db_ 72 3 NoO w' w.heap.size z2 G.nodes N/\db_ 74 5 EdO w' z2 w'.heap.size G.edges E
theorem ha_ (G:u_) (b3:f4_ G) (F:Nat->Prop) (u:Value) (w:World) (hF:∀b,F b->b<w.heap.size) (hg:GrR w F G u) :
    Calls Tryz.prog 30 #[u] w (jg_ G w):=by
 have bo:=q_ b3;obtain⟨uN,uE,rfl,⟨AN,cN,cd,_,bw⟩,AE,cE,c9,_,c2⟩:=hg;obtain⟨nN,bc⟩:=a_ G.nodes.length;obtain⟨nE,b6⟩:=a_ G.edges.length;have d8:nN<=2000000:=by rw[<-bc.o];exact b3.1
 have dc:nE<=2000000:=by rw[<-b6.o];exact b3.2.1
 rw[bc.o]at cd bw;rw[b6.o]at c9 c2;subst cd c9;obtain⟨zg,a8⟩:=a_ w.heap.size;obtain⟨w0,bh⟩:=a_ (w.alloc (.cells #[.slice AN nN cN,.slice AE nE cE] 54));have bi:=q_ (show Below w.heap.size w w0 from by rw[<-bh.o];exact (Below.refl _ _).alloc (Nat.le_refl _) _);have ca:=q_ (show w0.heap[zg]?=some (.cells #[.slice AN nN cN,.slice AE nE cE] 54 (0,0)) from by rw[<-bh.o,<-a8.o];exact heap_alloc_new w _);obtain⟨z,HZ⟩:=a_ w0.heap.size;have cb:=q_ (show z=zg+1 from by rw[<-HZ.o,<-bh.o,<-a8.o];simp);have df:zg<z:=by have:=cb.o;omega
 have cl:=q_ ((bw.mono NoR.good (F':=λb=>b<zg) (λb hb=>by have:=hF b hb;rw[a8.o]at this;exact this)).under NoR.good bi.o (λb hb=>by rw[a8.o];exact hb));have ct:=q_ ((c2.mono EdR.good (F':=λb=>b<zg) (λb hb=>by have:=hF b hb;rw[a8.o]at this;exact this)).under EdR.good bi.o (λb hb=>by rw[a8.o];exact hb));clear b3 bw c2 hF;obtain⟨w1,ba⟩:=a_ ((w0.alloc (.cells #[.slice none 0 0,.slice none 0 0] 54)).alloc (.cells #[.slice none 0 0,.slice none 0 0] 54));have cw:=q_ (show Below w0.heap.size w0 w1 from by rw[<-ba.o];exact D_ w0 _ _)
 have ck:=q_ (show Cg1 w0 z [] (.slice none 0 0) w1 from by
  have d6:w1.heap.size=z+2:=by rw[<-ba.o,<-HZ.o];simp
  refine⟨by rw[<-HZ.o];exact cw.o,?_,?_,db_.nil (by omega) (Nat.le_refl _)⟩
  ·rw[<-ba.o,Below.heap_alloc _ _ _ (by rw[<-HZ.o];simp),<-HZ.o];exact heap_alloc_new w0 _
  ·have:=heap_alloc_new (w0.alloc (.cells #[.slice none 0 0,.slice none 0 0] 54)) (.cells #[.slice none 0 0,.slice none 0 0] 54);rw[ba.o]at this;simpa [HZ.o] using this)
 go_enter Tryz.func30,Tryz.ntmps30
 go_upto_region 2 with fail;rw[bh.o,a8.o,show zg+1=z from cb.o.symm,ba.o];go_wp2_with fail;go_loopw [4] (λs wx=>∃(k:Nat) (Xs:Value),k<=nN/\s = .int .i64 (k:Nat)/\Q_ (Cg1 w0 z (G.nodes.take k) Xs wx)) (λs _=>nN-(intOf s).toNat)
 case atStart=>exact⟨0,_,by omega,rfl,q_ (by rw[List.take_zero];exact ck.o)⟩
 case round=>
  obtain⟨k,Xs,hk,rfl,hM⟩:=hrel;have x0:wr.cell? ⟨zg,0,none⟩=some (.slice AN nN cN):=(hM.o.below.cell (p:=⟨zg,0,none⟩) (by show zg<z;omega)).trans (cell_of_heap ca.o 0);by_cases bx:k<nN
  ·obtain⟨x,hx⟩:∃x,G.nodes[k]?=some x:=⟨G.nodes[k]'(by rw[bc.o];exact bx),List.getElem?_eq_getElem _⟩;have HX:=q_ hx;have az:=q_ (bo.o.2.2.1 x (List.mem_of_getElem? hx));obtain⟨ad,A1,d1,A2,d2,rfl,c5,cn,c0,au,q0,q1,q2⟩:=ns_ (cl.o.under NoR.good hM.o.below (λb hb=>by omega)) hx;clear hx c5 cn;obtain⟨id,a9⟩:=a_ x.id;obtain⟨y,bg⟩:=a_ x.labels.length;obtain⟨q,ar⟩:=a_ x.props.length;rw[a9.o]at q0;rw[bg.o]at q1 c0;rw[ar.o]at q2 au;have ci:=q_ c0;have bz:=q_ au;have d9:y<=2000000:=by rw[<-bg.o];exact az.o.1.1
   obtain⟨d,aq⟩:=a_ wr.heap.size;obtain⟨w5,aw⟩:=a_ (wr.alloc (.cells #[.int .i64 id,.slice A1 y d1,.slice A2 q d2] 72));have X:=q_ (show Below wr.heap.size wr w5 from by rw[<-aw.o];exact (Below.refl _ _).alloc (Nat.le_refl _) _);have ao:=q_ (show w5.heap[d]?=some (.cells #[.int .i64 id,.slice A1 y d1,.slice A2 q d2] 72 (0,0)) from by rw[<-aw.o,<-aq.o];exact heap_alloc_new wr _);have ay:(G.nodes.take k).length=k:=by rw[List.length_take,bc.o];omega
   obtain⟨A3,c3,cs,a,h3,hI⟩:=hM.o.own;rw[ay]at h3 hI;subst h3;have HI:=q_ hI;have a0:=q_ (show ∀b,(Value.slice A3 k c3).ownBlock=some b->z+2<=b/\b<wr.heap.size from hI.own);have ae:=q_ (show z+1<wr.heap.size from b_ hM.o.box);have a3:=q_ (show d<w5.heap.size from b_ ao.o);have a4:=q_ (show d=wr.heap.size from aq.o.symm);have bp:wr.heap.size<=w5.heap.size:=X.o.size;have V:=q_ (show z+1<w5.heap.size from by have:=ae.o;omega);have af:=q_ hM.o;have cu:=q_ (af.o.on X.o);have cf:=q_ (Ca_ x.labels (λb=>b<zg) A1 y d1 (by omega) w5.drew (λb hb=>by show b<w5.heap.size;have:=V.o;omega) ((ci.o.under TxR.good X.o (λb hb=>by have:=ae.o;omega)).drewN TxR.good 1));have bf:=q_ (λ(W:World) (hW:Below w5.heap.size w5 W)=>ro_ x.props az.o.1.2.2.2 az.o.1.2.1 (λb=>b<zg) A2 q d2 W (λb hb=>by have h1:w5.heap.size<=W.heap.size:=hW.size;have:=V.o;omega) ((bz.o.under PaR.good X.o (λb hb=>by have:=ae.o;omega)).under PaR.good hW (λb hb=>by have:=V.o;omega)));have ah:=q_ (λ(W':World) (hW:Below w5.heap.size w5 W')=>(show (W'.cell? ⟨d,0,none⟩=some (.int .i64 id)/\W'.cell? ⟨d,1,none⟩=some (.slice A1 y d1)/\W'.cell? ⟨d,2,none⟩=some (.slice A2 q d2)) from ⟨(hW.cell (p:=⟨d,0,none⟩) a3.o).trans (cell_of_heap ao.o 0),(hW.cell (p:=⟨d,1,none⟩) a3.o).trans (cell_of_heap ao.o 1),(hW.cell (p:=⟨d,2,none⟩) a3.o).trans (cell_of_heap ao.o 2)⟩));have ac:=q_ (λ(W':World) (hW:Below w5.heap.size w5 W')=>(show W'.heap[z+1]?=some (.cells #[.slice A3 k c3,.slice none 0 0] 54 (0,0)) from (hW.block (z+1) V.o).trans cu.o.box));have s1:=q_ (ah.o w5.drew (Below.refl _ _).drew);have g0:w5.drew.cell? ⟨z+1,0,none⟩=some (.slice A3 k c3):=cell_of_heap (ac.o w5.drew (Below.refl _ _).drew) 0;clear ay hI hM c0 au;obtain⟨i0,bm,b4,b2,b5⟩:=info_parts pk_;have e1:(0:Int)<=k:=by omega
   have e2:(k:Int)<nN:=by omega
   go_upto_region 6 with fail;rw[aq.o,aw.o];clear q0 q1 q2 x0;refine wp_region_held_drew (S:=λW'=>(W'.cell? ⟨d,0,none⟩=some (.int .i64 id)/\W'.cell? ⟨d,1,none⟩=some (.slice A1 y d1)/\W'.cell? ⟨d,2,none⟩=some (.slice A2 q d2))) (by kernel_rfl) s1.o λr=>?_;refine es_.o ?_;refine Iw_ 0 20 ?_ (by kernel_rfl) (by rfl) (by kernel_rfl) (by kernel_rfl) (by kernel_rfl) (λ_ _ _ h=>h) r (λw C=>?_) λr=>?_;rotate_left
   ·unfold ap_;try dsimp only at C
    go_simp
    first | done | with_reducible rfl
   simp only[Act.put,List.setIfInBounds_toArray,List.set_cons_zero,List.set_cons_succ];refine Iw_ 2 22 ?_ (by kernel_rfl) (by rfl) (by kernel_rfl) (by kernel_rfl) (by kernel_rfl) (λ_ _ _ h=>h) r (λw C=>?_) λr=>?_;rotate_left
   ·unfold ap_;try dsimp only at C
    go_simp
    first | done | with_reducible rfl
   simp only[Act.put,List.setIfInBounds_toArray,List.set_cons_zero,List.set_cons_succ];refine Iw_ 3 23 ?_ (by kernel_rfl) (by rfl) (by kernel_rfl) (by kernel_rfl) (by kernel_rfl) (λ_ _ _ h=>h) r (λw C=>?_) λr=>?_;rotate_left
   ·unfold ap_;try dsimp only at C
    go_simp
    first | done | with_reducible rfl
   simp only[Act.put,List.setIfInBounds_toArray,List.set_cons_zero,List.set_cons_succ];refine Iw_ 4 24 ?_ (by kernel_rfl) (by rfl) (by kernel_rfl) (by kernel_rfl) (by kernel_rfl) (λ_ _ _ h=>h) r (λw C=>?_) λr=>?_;rotate_left
   ·unfold ap_;try dsimp only at C
    go_simp
    first | done | with_reducible rfl
   simp only[Act.put,List.setIfInBounds_toArray,List.set_cons_zero,List.set_cons_succ];refine Iw_ 5 25 ?_ (by kernel_rfl) (by rfl) (by kernel_rfl) (by kernel_rfl) (by kernel_rfl) (λ_ _ _ h=>h) r (λw C=>?_) λr=>?_;rotate_left
   ·unfold ap_;try dsimp only at C
    go_simp
    first | done | with_reducible rfl
   simp only[Act.put,List.setIfInBounds_toArray,List.set_cons_zero,List.set_cons_succ];refine Iw_ 7 27 ?_ (by kernel_rfl) (by rfl) (by kernel_rfl) (by kernel_rfl) (by kernel_rfl) (λ_ _ _ h=>h) r (λw C=>?_) λr=>?_;rotate_left
   ·unfold ap_;try dsimp only at C
    go_simp
    first | done | with_reducible rfl
   simp only[Act.put,List.setIfInBounds_toArray,List.set_cons_zero,List.set_cons_succ];refine Iw_ 8 28 ?_ (by kernel_rfl) (by rfl) (by kernel_rfl) (by kernel_rfl) (by kernel_rfl) (λ_ _ _ h=>h) r (λw C=>?_) λr=>?_;rotate_left
   ·unfold ap_;try dsimp only at C
    go_simp
    first | done | with_reducible rfl
   simp only[Act.put,List.setIfInBounds_toArray,List.set_cons_zero,List.set_cons_succ];refine iy_ 1 6 (by kernel_rfl) (by rfl) (by rfl) (λK f=>?_) λK f=>?_
   ·skip
    unfold ao_;go_simp;refine f.out _ _ r λr=>?_;clear f K;(try simp only[Act.put,List.setIfInBounds_toArray,List.set_cons_zero,List.set_cons_succ]);refine Ix_ 6 (by kernel_rfl) (by rfl) λK f=>?_;unfold ao_;go_simp;go_at_call 80
    (with_reducible refine cf.o.mono ?_)
    rintro e U ⟨cx,rfl,b8,aj⟩;obtain⟨I,J,rfl⟩:=aj.form;rw[bg.o]at aj ⊢;have N:=q_ (show Below w5.heap.size w5 U from bd_ b8);have bb:=q_ aj;have sA:=q_ (ah.o U N.o);have gA:U.cell? ⟨z+1,0,none⟩=some (.slice A3 k c3):=cell_of_heap (ac.o U N.o) 0;clear b8 aj;refine f.out _ _ sA.o λr=>?_;clear f K;(try simp only[Act.put,List.setIfInBounds_toArray,List.set_cons_zero,List.set_cons_succ]);refine Ix_ 9 (by kernel_rfl) (by rfl) λK f=>?_;unfold ao_;go_simp;go_at_call 81
    (with_reducible refine (bf.o U N.o).mono ?_)
    rintro e w6 ⟨cc,rfl,T,M⟩;obtain⟨D,m,rfl⟩:=M.form;rw[ar.o]at M ⊢;have a7:=q_ T;have ap:=q_ M;have B:=q_ (show Below w5.heap.size w5 w6 from N.o.trans (T.mono N.o.size));have a6:=q_ (show z+1<w6.heap.size from by have h1:w5.heap.size<=w6.heap.size:=B.o.size;have:=V.o;omega);have a5:=q_ (show Below wr.heap.size wr w6 from X.o.trans (B.o.mono X.o.size));have ab:=q_ ((Turn.of_below a5.o).owns HI.o.row (λg hg h=>by have:=a0.o g hg;have h2:wr.heap.size<=g:=h;omega));have bd:w6.cell? ⟨z+1,0,none⟩=some (.slice A3 k c3):=cell_of_heap (ac.o w6 B.o) 0;have cg:(w6.alloc (.cells #[.int .i64 id,.slice I y J,.slice D q m] 72)).cell? ⟨z+1,0,none⟩=some (.slice A3 k c3):=(World.cell?_alloc_lt w6 _ _ (by show z+1<_;exact a6.o)).trans bd;have am:=q_ (show ∀u∈([.int .i64 id,.slice I y J,.slice D q m]:List Value),u.oneCell'=true from λu hu=>by simp at hu;rcases hu with rfl | rfl | rfl<;>rfl)
    have NB:=q_ (heap_alloc_new w6 (.cells #[.int .i64 id,.slice I y J,.slice D q m] 72));have b0:=q_ (show (w6.alloc (.cells #[.int .i64 id,.slice I y J,.slice D q m] 72)).heap.size=w6.heap.size+1 by simp);have sB:=q_ (ah.o w6 B.o);have sC:=q_ (ah.o _ (B.o.alloc B.o.size (.cells #[.int .i64 id,.slice I y J,.slice D q m] 72)));clear T M;refine f.out _ _ sB.o λr=>?_;clear f K;(try simp only[Act.put,List.setIfInBounds_toArray,List.set_cons_zero,List.set_cons_succ]);refine Iw_ 10 30 ?_ (by kernel_rfl) (by rfl) (by kernel_rfl) (by kernel_rfl) (by kernel_rfl) (λ_ _ _ h=>h) r (λw C=>?_) λr=>?_;rotate_left
    ·unfold ap_;try dsimp only at C
     go_simp
     first | done | with_reducible rfl
    simp only[Act.put,List.setIfInBounds_toArray,List.set_cons_zero,List.set_cons_succ];refine Ix_ 11 (by kernel_rfl) (by rfl) λK f=>?_;unfold ao_;go_simp;refine f.out _ _ sC.o λr=>?_;clear f K;(try simp only[Act.put,List.setIfInBounds_toArray,List.set_cons_zero,List.set_cons_succ]);refine Ix_ 12 (by kernel_rfl) (by rfl) λK f=>?_;change Oper.wp _ _ _ _ _ _;refine wp_append_lies _ _ _ 51 rfl 0 72 i0 (.agg #[.int .i64 0,.slice none 0 0,.slice none 0 0]) 3 56 Tryz.underlying51 bm b4 b2 b5 rfl (by decide) (.slice A3 k c3) k (I_ cs k) rfl (by exact ab.o.alloc _) ⟨w6.heap.size,0,none⟩ 1 1 [.int .i64 id,.slice I y J,.slice D q m] rfl rfl (World.news_of_block (cs:=#[.int .i64 id,.slice I y J,.slice D q m]) (by exact NB.o)) am.o (by omega) (by unfold maxLen;omega) (by omega) (Nat.zero_le _) (w6.heap.size+1) (by exact b0.o) λg7 c7 w7 Z t a1 _=>?_;have ak:=q_ Z;have O:=q_ (show w6.grownBy w7 (Value.slice A3 k c3).ownBlock from aa_ (w:=w6) (o:=.cells #[.int .i64 id,.slice I y J,.slice D q m] 72) ⟨t.os,t.tape,t.output,t.size,t.block⟩);have ag:=q_ (show (Value.slice A3 k c3).ownBlock=some g7\/g7=w6.heap.size+1 from a1);have a2:=q_ ((O.o.block (z+1) (by have:=a6.o;omega) (λe=>by have:=a0.o (z+1) e.symm;omega)).trans (ac.o w6 B.o));have f7:w7.frozen? ⟨z+1,0,none⟩=false:=Lib.frozen_of_heap a2.o 0;have bk:w7.cell? ⟨z+1,0,none⟩=some (.slice A3 k c3):=cell_of_heap a2.o 0;have Y:=q_ (λ(j:Nat)=>(show w7.cell? ⟨d,j,none⟩=w6.cell? ⟨d,j,none⟩ from (Turn.of_grown O.o).cell (p:=⟨d,j,none⟩) (show d<w6.heap.size from by have h1:w5.heap.size<=w6.heap.size:=B.o.size;have:=a3.o;omega) (λe=>by have:=(a0.o d e.symm).2;have:=a4.o;omega)));have s7:=q_ (show (w7.cell? ⟨d,0,none⟩=some (.int .i64 id)/\w7.cell? ⟨d,1,none⟩=some (.slice A1 y d1)/\w7.cell? ⟨d,2,none⟩=some (.slice A2 q d2)) from ⟨(Y.o 0).trans sB.o.1,(Y.o 1).trans sB.o.2.1,(Y.o 2).trans sB.o.2.2⟩);have L:=q_ (show (⟨z+1,0,none⟩:Addr).block≠d from (by show z+1≠d;have:=ae.o;have:=a4.o;omega));have s8:=q_ (show ((w7.setCell ⟨z+1,0,none⟩ (.slice (some ⟨g7,0,none⟩) (k+1) c7)).cell? ⟨d,0,none⟩=some (.int .i64 id)/\(w7.setCell ⟨z+1,0,none⟩ (.slice (some ⟨g7,0,none⟩) (k+1) c7)).cell? ⟨d,1,none⟩=some (.slice A1 y d1)/\(w7.setCell ⟨z+1,0,none⟩ (.slice (some ⟨g7,0,none⟩) (k+1) c7)).cell? ⟨d,2,none⟩=some (.slice A2 q d2)) from ⟨(World.cell?_setCell_far _ _ _ _ L.o).trans s7.o.1,(World.cell?_setCell_far _ _ _ _ L.o).trans s7.o.2.1,(World.cell?_setCell_far _ _ _ _ L.o).trans s7.o.2.2⟩);clear Z t a1;refine f.out _ _ s7.o λr=>?_;clear f K;(try simp only[Act.put,List.setIfInBounds_toArray]);refine Iw_ 13 33 ?_ (by kernel_rfl) (by rfl) (by kernel_rfl) (by kernel_rfl) (by kernel_rfl) (λ_ _ _ h=>h) r (λw C=>?_) λr=>?_;rotate_left
    ·unfold ap_;try dsimp only at C
     go_simp
     first | done | with_reducible rfl
    simp only[Act.put];refine Ix_ 14 (by kernel_rfl) (by rfl) λK f=>?_;unfold ao_;go_simp;refine f.out _ _ s8.o λr=>?_;clear f K;(try simp only[Act.put]);refine⟨wpAnyH_done (by kernel_rfl) ?_ _⟩;have w1:IntKind.i64.wrap ((k:Int)+1)=(k:Int)+1:=IntWalk.i64_in _ (by omega);go_wp2_with fail;go_roundw
    case measure=>simp[intOf];omega
    case rel=>
     refine⟨k+1,.slice (some ⟨g7,0,none⟩) (k+1) c7,by omega,by go_num,q_ ?_⟩;rw[f_ HX.o];have bu:w5.heap.size<=U.heap.size:=N.o.size;have br:U.heap.size<=w6.heap.size:=a7.o.size
     have ai:NoO w6 (λb=>wr.heap.size<=b/\b<w6.heap.size) x #[.int .i64 id,.slice I y J,.slice D q m]:=by
      refine⟨_,_,U.heap.size,by rw[a9.o],?_,?_⟩
      ·exact (bb.o.turn TxR.good (Turn.of_below a7.o) (λb hb=>hb.2) (λb hb h=>by have:=hb.2;omega)).mono TxR.good (λb hb=>⟨⟨by have h1:w5.heap.size<=b:=hb.1;omega,by have:=hb.2;omega⟩,hb.2⟩)
      ·exact ap.o.mono PaR.good (λb hb=>⟨⟨by have:=hb.1;omega,hb.2⟩,hb.1⟩)
     exact Cg1.more af.o HI.o a5.o ai rfl O.o (by rcases ag.o with h | h;exact .inl h;exact .inr (by omega)) ak.o
   ·skip
    unfold ao_;go_simp;go_at_call 80
    (with_reducible refine cf.o.mono ?_)
    rintro e U ⟨cx,rfl,b8,aj⟩;obtain⟨I,J,rfl⟩:=aj.form;rw[bg.o]at aj ⊢;have N:=q_ (show Below w5.heap.size w5 U from bd_ b8);have bb:=q_ aj;have sA:=q_ (ah.o U N.o);have gA:U.cell? ⟨z+1,0,none⟩=some (.slice A3 k c3):=cell_of_heap (ac.o U N.o) 0;clear b8 aj;refine f.out _ _ sA.o λr=>?_;clear f K;(try simp only[Act.put,List.setIfInBounds_toArray,List.set_cons_zero,List.set_cons_succ]);refine iy_ 1 9 (by kernel_rfl) (by rfl) (by rfl) (λK f=>?_) λK f=>?_
    ·skip
     unfold ao_;go_simp;refine f.out _ _ r λr=>?_;clear f K;(try simp only[Act.put,List.setIfInBounds_toArray,List.set_cons_zero,List.set_cons_succ]);refine Ix_ 9 (by kernel_rfl) (by rfl) λK f=>?_;unfold ao_;go_simp;go_at_call 81
     (with_reducible refine (bf.o U N.o).mono ?_)
     rintro e w6 ⟨cc,rfl,T,M⟩;obtain⟨D,m,rfl⟩:=M.form;rw[ar.o]at M ⊢;have a7:=q_ T;have ap:=q_ M;have B:=q_ (show Below w5.heap.size w5 w6 from N.o.trans (T.mono N.o.size));have a6:=q_ (show z+1<w6.heap.size from by have h1:w5.heap.size<=w6.heap.size:=B.o.size;have:=V.o;omega);have a5:=q_ (show Below wr.heap.size wr w6 from X.o.trans (B.o.mono X.o.size));have ab:=q_ ((Turn.of_below a5.o).owns HI.o.row (λg hg h=>by have:=a0.o g hg;have h2:wr.heap.size<=g:=h;omega));have bd:w6.cell? ⟨z+1,0,none⟩=some (.slice A3 k c3):=cell_of_heap (ac.o w6 B.o) 0;have cg:(w6.alloc (.cells #[.int .i64 id,.slice I y J,.slice D q m] 72)).cell? ⟨z+1,0,none⟩=some (.slice A3 k c3):=(World.cell?_alloc_lt w6 _ _ (by show z+1<_;exact a6.o)).trans bd;have am:=q_ (show ∀u∈([.int .i64 id,.slice I y J,.slice D q m]:List Value),u.oneCell'=true from λu hu=>by simp at hu;rcases hu with rfl | rfl | rfl<;>rfl)
     have NB:=q_ (heap_alloc_new w6 (.cells #[.int .i64 id,.slice I y J,.slice D q m] 72));have b0:=q_ (show (w6.alloc (.cells #[.int .i64 id,.slice I y J,.slice D q m] 72)).heap.size=w6.heap.size+1 by simp);have sB:=q_ (ah.o w6 B.o);have sC:=q_ (ah.o _ (B.o.alloc B.o.size (.cells #[.int .i64 id,.slice I y J,.slice D q m] 72)));clear T M;refine f.out _ _ sB.o λr=>?_;clear f K;(try simp only[Act.put,List.setIfInBounds_toArray,List.set_cons_zero,List.set_cons_succ]);refine Iw_ 10 30 ?_ (by kernel_rfl) (by rfl) (by kernel_rfl) (by kernel_rfl) (by kernel_rfl) (λ_ _ _ h=>h) r (λw C=>?_) λr=>?_;rotate_left
     ·unfold ap_;try dsimp only at C
      go_simp
      first | done | with_reducible rfl
     simp only[Act.put,List.setIfInBounds_toArray,List.set_cons_zero,List.set_cons_succ];refine Ix_ 11 (by kernel_rfl) (by rfl) λK f=>?_;unfold ao_;go_simp;refine f.out _ _ sC.o λr=>?_;clear f K;(try simp only[Act.put,List.setIfInBounds_toArray,List.set_cons_zero,List.set_cons_succ]);refine Ix_ 12 (by kernel_rfl) (by rfl) λK f=>?_;change Oper.wp _ _ _ _ _ _;refine wp_append_lies _ _ _ 51 rfl 0 72 i0 (.agg #[.int .i64 0,.slice none 0 0,.slice none 0 0]) 3 56 Tryz.underlying51 bm b4 b2 b5 rfl (by decide) (.slice A3 k c3) k (I_ cs k) rfl (by exact ab.o.alloc _) ⟨w6.heap.size,0,none⟩ 1 1 [.int .i64 id,.slice I y J,.slice D q m] rfl rfl (World.news_of_block (cs:=#[.int .i64 id,.slice I y J,.slice D q m]) (by exact NB.o)) am.o (by omega) (by unfold maxLen;omega) (by omega) (Nat.zero_le _) (w6.heap.size+1) (by exact b0.o) λg7 c7 w7 Z t a1 _=>?_;have ak:=q_ Z;have O:=q_ (show w6.grownBy w7 (Value.slice A3 k c3).ownBlock from aa_ (w:=w6) (o:=.cells #[.int .i64 id,.slice I y J,.slice D q m] 72) ⟨t.os,t.tape,t.output,t.size,t.block⟩);have ag:=q_ (show (Value.slice A3 k c3).ownBlock=some g7\/g7=w6.heap.size+1 from a1);have a2:=q_ ((O.o.block (z+1) (by have:=a6.o;omega) (λe=>by have:=a0.o (z+1) e.symm;omega)).trans (ac.o w6 B.o));have f7:w7.frozen? ⟨z+1,0,none⟩=false:=Lib.frozen_of_heap a2.o 0;have bk:w7.cell? ⟨z+1,0,none⟩=some (.slice A3 k c3):=cell_of_heap a2.o 0;have Y:=q_ (λ(j:Nat)=>(show w7.cell? ⟨d,j,none⟩=w6.cell? ⟨d,j,none⟩ from (Turn.of_grown O.o).cell (p:=⟨d,j,none⟩) (show d<w6.heap.size from by have h1:w5.heap.size<=w6.heap.size:=B.o.size;have:=a3.o;omega) (λe=>by have:=(a0.o d e.symm).2;have:=a4.o;omega)));have s7:=q_ (show (w7.cell? ⟨d,0,none⟩=some (.int .i64 id)/\w7.cell? ⟨d,1,none⟩=some (.slice A1 y d1)/\w7.cell? ⟨d,2,none⟩=some (.slice A2 q d2)) from ⟨(Y.o 0).trans sB.o.1,(Y.o 1).trans sB.o.2.1,(Y.o 2).trans sB.o.2.2⟩);have L:=q_ (show (⟨z+1,0,none⟩:Addr).block≠d from (by show z+1≠d;have:=ae.o;have:=a4.o;omega));have s8:=q_ (show ((w7.setCell ⟨z+1,0,none⟩ (.slice (some ⟨g7,0,none⟩) (k+1) c7)).cell? ⟨d,0,none⟩=some (.int .i64 id)/\(w7.setCell ⟨z+1,0,none⟩ (.slice (some ⟨g7,0,none⟩) (k+1) c7)).cell? ⟨d,1,none⟩=some (.slice A1 y d1)/\(w7.setCell ⟨z+1,0,none⟩ (.slice (some ⟨g7,0,none⟩) (k+1) c7)).cell? ⟨d,2,none⟩=some (.slice A2 q d2)) from ⟨(World.cell?_setCell_far _ _ _ _ L.o).trans s7.o.1,(World.cell?_setCell_far _ _ _ _ L.o).trans s7.o.2.1,(World.cell?_setCell_far _ _ _ _ L.o).trans s7.o.2.2⟩);clear Z t a1;refine f.out _ _ s7.o λr=>?_;clear f K;(try simp only[Act.put,List.setIfInBounds_toArray]);refine Iw_ 13 33 ?_ (by kernel_rfl) (by rfl) (by kernel_rfl) (by kernel_rfl) (by kernel_rfl) (λ_ _ _ h=>h) r (λw C=>?_) λr=>?_;rotate_left
     ·unfold ap_;try dsimp only at C
      go_simp
      first | done | with_reducible rfl
     simp only[Act.put];refine Ix_ 14 (by kernel_rfl) (by rfl) λK f=>?_;unfold ao_;go_simp;refine f.out _ _ s8.o λr=>?_;clear f K;(try simp only[Act.put]);refine⟨wpAnyH_done (by kernel_rfl) ?_ _⟩;have w1:IntKind.i64.wrap ((k:Int)+1)=(k:Int)+1:=IntWalk.i64_in _ (by omega);go_wp2_with fail;go_roundw
     case measure=>simp[intOf];omega
     case rel=>
      refine⟨k+1,.slice (some ⟨g7,0,none⟩) (k+1) c7,by omega,by go_num,q_ ?_⟩;rw[f_ HX.o];have bu:w5.heap.size<=U.heap.size:=N.o.size;have br:U.heap.size<=w6.heap.size:=a7.o.size
      have ai:NoO w6 (λb=>wr.heap.size<=b/\b<w6.heap.size) x #[.int .i64 id,.slice I y J,.slice D q m]:=by
       refine⟨_,_,U.heap.size,by rw[a9.o],?_,?_⟩
       ·exact (bb.o.turn TxR.good (Turn.of_below a7.o) (λb hb=>hb.2) (λb hb h=>by have:=hb.2;omega)).mono TxR.good (λb hb=>⟨⟨by have h1:w5.heap.size<=b:=hb.1;omega,by have:=hb.2;omega⟩,hb.2⟩)
       ·exact ap.o.mono PaR.good (λb hb=>⟨⟨by have:=hb.1;omega,hb.2⟩,hb.1⟩)
      exact Cg1.more af.o HI.o a5.o ai rfl O.o (by rcases ag.o with h | h;exact .inl h;exact .inr (by omega)) ak.o
    ·skip
     unfold ao_;go_simp;go_at_call 81
     (with_reducible refine (bf.o U N.o).mono ?_)
     rintro e w6 ⟨cc,rfl,T,M⟩;obtain⟨D,m,rfl⟩:=M.form;rw[ar.o]at M ⊢;have a7:=q_ T;have ap:=q_ M;have B:=q_ (show Below w5.heap.size w5 w6 from N.o.trans (T.mono N.o.size));have a6:=q_ (show z+1<w6.heap.size from by have h1:w5.heap.size<=w6.heap.size:=B.o.size;have:=V.o;omega);have a5:=q_ (show Below wr.heap.size wr w6 from X.o.trans (B.o.mono X.o.size));have ab:=q_ ((Turn.of_below a5.o).owns HI.o.row (λg hg h=>by have:=a0.o g hg;have h2:wr.heap.size<=g:=h;omega));have bd:w6.cell? ⟨z+1,0,none⟩=some (.slice A3 k c3):=cell_of_heap (ac.o w6 B.o) 0;have cg:(w6.alloc (.cells #[.int .i64 id,.slice I y J,.slice D q m] 72)).cell? ⟨z+1,0,none⟩=some (.slice A3 k c3):=(World.cell?_alloc_lt w6 _ _ (by show z+1<_;exact a6.o)).trans bd;have am:=q_ (show ∀u∈([.int .i64 id,.slice I y J,.slice D q m]:List Value),u.oneCell'=true from λu hu=>by simp at hu;rcases hu with rfl | rfl | rfl<;>rfl)
     have NB:=q_ (heap_alloc_new w6 (.cells #[.int .i64 id,.slice I y J,.slice D q m] 72));have b0:=q_ (show (w6.alloc (.cells #[.int .i64 id,.slice I y J,.slice D q m] 72)).heap.size=w6.heap.size+1 by simp);have sB:=q_ (ah.o w6 B.o);have sC:=q_ (ah.o _ (B.o.alloc B.o.size (.cells #[.int .i64 id,.slice I y J,.slice D q m] 72)));clear T M;refine f.out _ _ sB.o λr=>?_;clear f K;(try simp only[Act.put,List.setIfInBounds_toArray,List.set_cons_zero,List.set_cons_succ]);refine Iw_ 10 30 ?_ (by kernel_rfl) (by rfl) (by kernel_rfl) (by kernel_rfl) (by kernel_rfl) (λ_ _ _ h=>h) r (λw C=>?_) λr=>?_;rotate_left
     ·unfold ap_;try dsimp only at C
      go_simp
      first | done | with_reducible rfl
     simp only[Act.put,List.setIfInBounds_toArray,List.set_cons_zero,List.set_cons_succ];refine iy_ 1 11 (by kernel_rfl) (by rfl) (by rfl) (λK f=>?_) λK f=>?_
     ·skip
      unfold ao_;go_simp;refine f.out _ _ r λr=>?_;clear f K;(try simp only[Act.put,List.setIfInBounds_toArray,List.set_cons_zero,List.set_cons_succ]);refine Ix_ 11 (by kernel_rfl) (by rfl) λK f=>?_;unfold ao_;go_simp;refine f.out _ _ sC.o λr=>?_;clear f K;(try simp only[Act.put,List.setIfInBounds_toArray,List.set_cons_zero,List.set_cons_succ]);refine Ix_ 12 (by kernel_rfl) (by rfl) λK f=>?_;change Oper.wp _ _ _ _ _ _;refine wp_append_lies _ _ _ 51 rfl 0 72 i0 (.agg #[.int .i64 0,.slice none 0 0,.slice none 0 0]) 3 56 Tryz.underlying51 bm b4 b2 b5 rfl (by decide) (.slice A3 k c3) k (I_ cs k) rfl (by exact ab.o.alloc _) ⟨w6.heap.size,0,none⟩ 1 1 [.int .i64 id,.slice I y J,.slice D q m] rfl rfl (World.news_of_block (cs:=#[.int .i64 id,.slice I y J,.slice D q m]) (by exact NB.o)) am.o (by omega) (by unfold maxLen;omega) (by omega) (Nat.zero_le _) (w6.heap.size+1) (by exact b0.o) λg7 c7 w7 Z t a1 _=>?_;have ak:=q_ Z;have O:=q_ (show w6.grownBy w7 (Value.slice A3 k c3).ownBlock from aa_ (w:=w6) (o:=.cells #[.int .i64 id,.slice I y J,.slice D q m] 72) ⟨t.os,t.tape,t.output,t.size,t.block⟩);have ag:=q_ (show (Value.slice A3 k c3).ownBlock=some g7\/g7=w6.heap.size+1 from a1);have a2:=q_ ((O.o.block (z+1) (by have:=a6.o;omega) (λe=>by have:=a0.o (z+1) e.symm;omega)).trans (ac.o w6 B.o));have f7:w7.frozen? ⟨z+1,0,none⟩=false:=Lib.frozen_of_heap a2.o 0;have bk:w7.cell? ⟨z+1,0,none⟩=some (.slice A3 k c3):=cell_of_heap a2.o 0;have Y:=q_ (λ(j:Nat)=>(show w7.cell? ⟨d,j,none⟩=w6.cell? ⟨d,j,none⟩ from (Turn.of_grown O.o).cell (p:=⟨d,j,none⟩) (show d<w6.heap.size from by have h1:w5.heap.size<=w6.heap.size:=B.o.size;have:=a3.o;omega) (λe=>by have:=(a0.o d e.symm).2;have:=a4.o;omega)));have s7:=q_ (show (w7.cell? ⟨d,0,none⟩=some (.int .i64 id)/\w7.cell? ⟨d,1,none⟩=some (.slice A1 y d1)/\w7.cell? ⟨d,2,none⟩=some (.slice A2 q d2)) from ⟨(Y.o 0).trans sB.o.1,(Y.o 1).trans sB.o.2.1,(Y.o 2).trans sB.o.2.2⟩);have L:=q_ (show (⟨z+1,0,none⟩:Addr).block≠d from (by show z+1≠d;have:=ae.o;have:=a4.o;omega));have s8:=q_ (show ((w7.setCell ⟨z+1,0,none⟩ (.slice (some ⟨g7,0,none⟩) (k+1) c7)).cell? ⟨d,0,none⟩=some (.int .i64 id)/\(w7.setCell ⟨z+1,0,none⟩ (.slice (some ⟨g7,0,none⟩) (k+1) c7)).cell? ⟨d,1,none⟩=some (.slice A1 y d1)/\(w7.setCell ⟨z+1,0,none⟩ (.slice (some ⟨g7,0,none⟩) (k+1) c7)).cell? ⟨d,2,none⟩=some (.slice A2 q d2)) from ⟨(World.cell?_setCell_far _ _ _ _ L.o).trans s7.o.1,(World.cell?_setCell_far _ _ _ _ L.o).trans s7.o.2.1,(World.cell?_setCell_far _ _ _ _ L.o).trans s7.o.2.2⟩);clear Z t a1;refine f.out _ _ s7.o λr=>?_;clear f K;(try simp only[Act.put,List.setIfInBounds_toArray]);refine Iw_ 13 33 ?_ (by kernel_rfl) (by rfl) (by kernel_rfl) (by kernel_rfl) (by kernel_rfl) (λ_ _ _ h=>h) r (λw C=>?_) λr=>?_;rotate_left
      ·unfold ap_;try dsimp only at C
       go_simp
       first | done | with_reducible rfl
      simp only[Act.put];refine Ix_ 14 (by kernel_rfl) (by rfl) λK f=>?_;unfold ao_;go_simp;refine f.out _ _ s8.o λr=>?_;clear f K;(try simp only[Act.put]);refine⟨wpAnyH_done (by kernel_rfl) ?_ _⟩;have w1:IntKind.i64.wrap ((k:Int)+1)=(k:Int)+1:=IntWalk.i64_in _ (by omega);go_wp2_with fail;go_roundw
      case measure=>simp[intOf];omega
      case rel=>
       refine⟨k+1,.slice (some ⟨g7,0,none⟩) (k+1) c7,by omega,by go_num,q_ ?_⟩;rw[f_ HX.o];have bu:w5.heap.size<=U.heap.size:=N.o.size;have br:U.heap.size<=w6.heap.size:=a7.o.size
       have ai:NoO w6 (λb=>wr.heap.size<=b/\b<w6.heap.size) x #[.int .i64 id,.slice I y J,.slice D q m]:=by
        refine⟨_,_,U.heap.size,by rw[a9.o],?_,?_⟩
        ·exact (bb.o.turn TxR.good (Turn.of_below a7.o) (λb hb=>hb.2) (λb hb h=>by have:=hb.2;omega)).mono TxR.good (λb hb=>⟨⟨by have h1:w5.heap.size<=b:=hb.1;omega,by have:=hb.2;omega⟩,hb.2⟩)
        ·exact ap.o.mono PaR.good (λb hb=>⟨⟨by have:=hb.1;omega,hb.2⟩,hb.1⟩)
       exact Cg1.more af.o HI.o a5.o ai rfl O.o (by rcases ag.o with h | h;exact .inl h;exact .inr (by omega)) ak.o
     ·skip
      unfold ao_;go_simp;refine f.out _ _ sC.o λr=>?_;clear f K;(try simp only[Act.put,List.setIfInBounds_toArray,List.set_cons_zero,List.set_cons_succ]);refine Ix_ 1 (by kernel_rfl) (by rfl) λK f=>?_;unfold ao_;go_simp;refine f.out _ _ r λr=>?_;clear f K;(try simp only[Act.put,List.setIfInBounds_toArray,List.set_cons_zero,List.set_cons_succ]);refine Ix_ 12 (by kernel_rfl) (by rfl) λK f=>?_;change Oper.wp _ _ _ _ _ _;refine wp_append_lies _ _ _ 51 rfl 0 72 i0 (.agg #[.int .i64 0,.slice none 0 0,.slice none 0 0]) 3 56 Tryz.underlying51 bm b4 b2 b5 rfl (by decide) (.slice A3 k c3) k (I_ cs k) rfl (by exact ab.o.alloc _) ⟨w6.heap.size,0,none⟩ 1 1 [.int .i64 id,.slice I y J,.slice D q m] rfl rfl (World.news_of_block (cs:=#[.int .i64 id,.slice I y J,.slice D q m]) (by exact NB.o)) am.o (by omega) (by unfold maxLen;omega) (by omega) (Nat.zero_le _) (w6.heap.size+1) (by exact b0.o) λg7 c7 w7 Z t a1 _=>?_;have ak:=q_ Z;have O:=q_ (show w6.grownBy w7 (Value.slice A3 k c3).ownBlock from aa_ (w:=w6) (o:=.cells #[.int .i64 id,.slice I y J,.slice D q m] 72) ⟨t.os,t.tape,t.output,t.size,t.block⟩);have ag:=q_ (show (Value.slice A3 k c3).ownBlock=some g7\/g7=w6.heap.size+1 from a1);have a2:=q_ ((O.o.block (z+1) (by have:=a6.o;omega) (λe=>by have:=a0.o (z+1) e.symm;omega)).trans (ac.o w6 B.o));have f7:w7.frozen? ⟨z+1,0,none⟩=false:=Lib.frozen_of_heap a2.o 0;have bk:w7.cell? ⟨z+1,0,none⟩=some (.slice A3 k c3):=cell_of_heap a2.o 0;have Y:=q_ (λ(j:Nat)=>(show w7.cell? ⟨d,j,none⟩=w6.cell? ⟨d,j,none⟩ from (Turn.of_grown O.o).cell (p:=⟨d,j,none⟩) (show d<w6.heap.size from by have h1:w5.heap.size<=w6.heap.size:=B.o.size;have:=a3.o;omega) (λe=>by have:=(a0.o d e.symm).2;have:=a4.o;omega)));have s7:=q_ (show (w7.cell? ⟨d,0,none⟩=some (.int .i64 id)/\w7.cell? ⟨d,1,none⟩=some (.slice A1 y d1)/\w7.cell? ⟨d,2,none⟩=some (.slice A2 q d2)) from ⟨(Y.o 0).trans sB.o.1,(Y.o 1).trans sB.o.2.1,(Y.o 2).trans sB.o.2.2⟩);have L:=q_ (show (⟨z+1,0,none⟩:Addr).block≠d from (by show z+1≠d;have:=ae.o;have:=a4.o;omega));have s8:=q_ (show ((w7.setCell ⟨z+1,0,none⟩ (.slice (some ⟨g7,0,none⟩) (k+1) c7)).cell? ⟨d,0,none⟩=some (.int .i64 id)/\(w7.setCell ⟨z+1,0,none⟩ (.slice (some ⟨g7,0,none⟩) (k+1) c7)).cell? ⟨d,1,none⟩=some (.slice A1 y d1)/\(w7.setCell ⟨z+1,0,none⟩ (.slice (some ⟨g7,0,none⟩) (k+1) c7)).cell? ⟨d,2,none⟩=some (.slice A2 q d2)) from ⟨(World.cell?_setCell_far _ _ _ _ L.o).trans s7.o.1,(World.cell?_setCell_far _ _ _ _ L.o).trans s7.o.2.1,(World.cell?_setCell_far _ _ _ _ L.o).trans s7.o.2.2⟩);clear Z t a1;refine f.out _ _ s7.o λr=>?_;clear f K;(try simp only[Act.put,List.setIfInBounds_toArray]);refine Iw_ 13 33 ?_ (by kernel_rfl) (by rfl) (by kernel_rfl) (by kernel_rfl) (by kernel_rfl) (λ_ _ _ h=>h) r (λw C=>?_) λr=>?_;rotate_left
      ·unfold ap_;try dsimp only at C
       go_simp
       first | done | with_reducible rfl
      simp only[Act.put];refine Ix_ 14 (by kernel_rfl) (by rfl) λK f=>?_;unfold ao_;go_simp;refine f.out _ _ s8.o λr=>?_;clear f K;(try simp only[Act.put]);refine⟨wpAnyH_done (by kernel_rfl) ?_ _⟩;have w1:IntKind.i64.wrap ((k:Int)+1)=(k:Int)+1:=IntWalk.i64_in _ (by omega);go_wp2_with fail;go_roundw
      case measure=>simp[intOf];omega
      case rel=>
       refine⟨k+1,.slice (some ⟨g7,0,none⟩) (k+1) c7,by omega,by go_num,q_ ?_⟩;rw[f_ HX.o];have bu:w5.heap.size<=U.heap.size:=N.o.size;have br:U.heap.size<=w6.heap.size:=a7.o.size
       have ai:NoO w6 (λb=>wr.heap.size<=b/\b<w6.heap.size) x #[.int .i64 id,.slice I y J,.slice D q m]:=by
        refine⟨_,_,U.heap.size,by rw[a9.o],?_,?_⟩
        ·exact (bb.o.turn TxR.good (Turn.of_below a7.o) (λb hb=>hb.2) (λb hb h=>by have:=hb.2;omega)).mono TxR.good (λb hb=>⟨⟨by have h1:w5.heap.size<=b:=hb.1;omega,by have:=hb.2;omega⟩,hb.2⟩)
        ·exact ap.o.mono PaR.good (λb hb=>⟨⟨by have:=hb.1;omega,hb.2⟩,hb.1⟩)
       exact Cg1.more af.o HI.o a5.o ai rfl O.o (by rcases ag.o with h | h;exact .inl h;exact .inr (by omega)) ak.o
  ·have b9:nN=k:=by omega
   have bj:=hM.o.next;rw[List.take_of_length_le (by rw[bc.o,b9];exact Nat.le_refl _)]at bj;obtain⟨z2,cj⟩:=a_ wr.heap.size;rw[cj.o]at bj;have cq:=q_ bj;obtain⟨wq,de⟩:=a_ wr;clear hM bj;subst b9;go_upto_region 7 with fail;clear x0;go_wp2_with fail;go_loopw [6] (λs wx=>∃(k:Nat) (Es:Value),k<=nE/\s = .int .i64 (k:Nat)/\Q_ (Cg2 w0 z z2 G.nodes (G.edges.take k) Xs Es wx)) (λs _=>nE-(intOf s).toNat)
   case atStart=>exact⟨0,_,by omega,rfl,q_ (by rw[List.take_zero];exact cq.o)⟩
   case round=>
    obtain⟨k,Es,hk,rfl,hM⟩:=hrel;have x1:wr.cell? ⟨zg,1,none⟩=some (.slice AE nE cE):=(hM.o.below.cell (p:=⟨zg,1,none⟩) (by show zg<z;omega)).trans (cell_of_heap ca.o 1);by_cases bx:k<nE
    ·obtain⟨x,hx⟩:∃x,G.edges[k]?=some x:=⟨G.edges[k]'(by rw[b6.o];exact bx),List.getElem?_eq_getElem _⟩;have HX:=q_ hx;have az:=q_ (bo.o.2.2.2 x (List.mem_of_getElem? hx));obtain⟨ad,A2,d2,rfl,c5,cy,au,q0,q1,q2,q3,q4⟩:=nt_ (ct.o.under EdR.good hM.o.below (λb hb=>by omega)) hx;clear hx c5 cy;obtain⟨id,a9⟩:=a_ x.id;obtain⟨src,bq⟩:=a_ x.src;obtain⟨dst,bt⟩:=a_ x.dst;obtain⟨b1,c4⟩:=a_ x.type;obtain⟨q,ar⟩:=a_ x.props.length;rw[a9.o]at q0;rw[bq.o]at q1;rw[bt.o]at q2;rw[c4.o]at q3;rw[ar.o]at q4 au;have bz:=q_ au;obtain⟨d,aq⟩:=a_ wr.heap.size;obtain⟨w5,aw⟩:=a_ (wr.alloc (.cells #[.int .i64 id,.int .i64 src,.int .i64 dst,.string b1,.slice A2 q d2] 74));have X:=q_ (show Below wr.heap.size wr w5 from by rw[<-aw.o];exact (Below.refl _ _).alloc (Nat.le_refl _) _);have ao:=q_ (show w5.heap[d]?=some (.cells #[.int .i64 id,.int .i64 src,.int .i64 dst,.string b1,.slice A2 q d2] 74 (0,0)) from by rw[<-aw.o,<-aq.o];exact heap_alloc_new wr _);have ay:(G.edges.take k).length=k:=by rw[List.length_take,b6.o];omega
     obtain⟨A3,c3,cs,a,h3,hI⟩:=hM.o.own;rw[ay]at h3 hI;subst h3;have HI:=q_ hI;have a0:=q_ (show ∀b,(Value.slice A3 k c3).ownBlock=some b->z2<=b/\b<wr.heap.size from hI.own);have V:=q_ (show z+1<wr.heap.size from b_ hM.o.box);have a3:=q_ (show d<w5.heap.size from b_ ao.o);have d0:z+2<=z2:=hM.o.loc.1;have bp:wr.heap.size<=w5.heap.size:=X.o.size;have bf:=q_ (ro_ x.props az.o.1.2.2 az.o.1.2.1 (λb=>b<zg) A2 q d2 w5 (λb hb=>by have:=V.o;omega) (bz.o.under PaR.good X.o (λb hb=>by have:=V.o;omega)));have n4:w5.cell? ⟨d,4,none⟩=some (.slice A2 q d2):=cell_of_heap ao.o 4;have af:=q_ hM.o;have ce:=af.o.on X.o;have co:=q_ ce.box;clear ay hI hM au ce;have e1:(0:Int)<=k:=by omega
     have e2:(k:Int)<nE:=by omega
     go_upto_region 11 with fail;rw[aq.o,aw.o];clear q0 q1 q2 q3 q4 x1;go_wp2_with fail;refine bf.o.mono ?_;rintro e w6 ⟨sB,rfl,T,M⟩;obtain⟨D,m,rfl⟩:=M.form;rw[ar.o]at M ⊢;have ap:=q_ M;have a7:=q_ T;have d5:w5.heap.size<=w6.heap.size:=T.size;have bs:=q_ ((T.block d a3.o).trans ao.o);have p4:w6.cell? ⟨d,4,none⟩=some (.slice A2 q d2):=cell_of_heap bs.o 4;have y4:w6.frozen? ⟨d,4,none⟩=false:=Lib.frozen_of_heap bs.o 4;clear T M n4;go_upto_region 12 with fail;obtain⟨w8,c1⟩:=a_ (w6.setCell ⟨d,4,none⟩ (.slice D q m));have b7:=q_ (show w8.heap[d]?=some (.cells #[.int .i64 id,.int .i64 src,.int .i64 dst,.string b1,.slice D q m] 74 (0,0)) from by rw[<-c1.o];exact heap_setCell_same w6 d 4 _ _ _ bs.o);have bn:=q_ (show Turn (λb=>b=d) w6 w8 from by rw[<-c1.o];exact (Turn.refl (λb=>b=d) w6).setCell (p:=⟨d,4,none⟩) (.inr rfl) _);have a4:=q_ (show d=wr.heap.size from aq.o.symm);have bl:=q_ (show Below wr.heap.size wr w8 from (X.o.trans (a7.o.mono bp)).trans (bn.o.below (λi _ hi=>by have:=a4.o;omega) (by omega)));have d3:w6.heap.size<=w8.heap.size:=bn.o.size;have ch:=q_ (af.o.on bl.o);have c8:=q_ ((Turn.of_below bl.o).owns HI.o.row (λg hg h=>by have:=a0.o g hg;have h2:wr.heap.size<=g:=h;omega));rw[c1.o];have g0:w8.cell? ⟨z+1,1,none⟩=some (.slice A3 k c3):=cell_of_heap ch.o.box 1;have n0:w8.cell? ⟨d,0,none⟩=some (.int .i64 id):=cell_of_heap b7.o 0;have n1:w8.cell? ⟨d,1,none⟩=some (.int .i64 src):=cell_of_heap b7.o 1;have n2:w8.cell? ⟨d,2,none⟩=some (.int .i64 dst):=cell_of_heap b7.o 2;have n3:w8.cell? ⟨d,3,none⟩=some (.string b1):=cell_of_heap b7.o 3;have n4:w8.cell? ⟨d,4,none⟩=some (.slice D q m):=cell_of_heap b7.o 4;clear p4 y4;go_wp2_with (at_builtin;refine i0_ rfl _ _ 52 rfl 0 74 (.agg #[.int .i64 0,.int .i64 0,.int .i64 0,.string ⟨#[]⟩,.slice none 0 0]) 5 64 Tryz.underlying52 pl_ rfl (by decide) (.slice A3 k c3) k (I_ cs k) rfl c8.o (Nat.zero_le _) #[.int .i64 id,.int .i64 src,.int .i64 dst,.string b1,.slice D q m] 1 1 rfl rfl (λu hu=>by simp at hu;rcases hu with rfl | rfl | rfl | rfl | rfl<;>rfl) (by omega) (by omega) (by decide) ?_;intro g7 c7 w7 Z t a1;have ak:=q_ Z;have O:=q_ t;have ag:=q_ a1;have a2:=q_ ((t.block (z+1) (by have:=V.o;have:=bl.o.size;omega) (λe=>by have:=a0.o (z+1) e.symm;omega)).trans ch.o.box);have f7:w7.frozen? ⟨z+1,1,none⟩=false:=Lib.frozen_of_heap a2.o 1;have bk:w7.cell? ⟨z+1,1,none⟩=some (.slice A3 k c3):=cell_of_heap a2.o 1;have w1:IntKind.i64.wrap ((k:Int)+1)=(k:Int)+1:=(IntWalk.i64_in _ (by omega));clear Z t a1)
     go_roundw
     case measure=>simp[intOf];omega
     case rel=>
      refine⟨k+1,.slice (some ⟨g7,0,none⟩) (k+1) c7,by omega,by go_num,q_ ?_⟩;rw[f_ HX.o];have ai:EdO w8 (λb=>wr.heap.size<=b/\b<w8.heap.size) x #[.int .i64 id,.int .i64 src,.int .i64 dst,.string b1,.slice D q m]:=by refine⟨_,by rw[a9.o,bq.o,bt.o,c4.o],?_⟩;exact (ap.o.turn PaR.good bn.o (λb hb=>hb.2) (λb hb h=>by have:=hb.1;have:=a3.o;omega)).mono PaR.good (λb hb=>⟨by have:=hb.1;omega,by have:=hb.2;omega⟩)
      exact Cg2.more af.o HI.o bl.o ai rfl O.o ag.o ak.o
    ·have b9:nE=k:=by omega
     have aa:=hM.o;rw[List.take_of_length_le (by rw[b6.o,b9];exact Nat.le_refl _)]at aa;obtain⟨AX,cX,_,_,cr,_⟩:=id aa.nodes;obtain⟨AY,cY,_,_,cm,_⟩:=id aa.own;subst cr cm;have av:=q_ aa;have da:wr.cell? ⟨z+1,0,none⟩=some (.slice AX G.nodes.length cX):=cell_of_heap aa.box 0;have db:wr.cell? ⟨z+1,1,none⟩=some (.slice AY G.edges.length cY):=cell_of_heap aa.box 1;have r0:wr.cell? ⟨z,0,none⟩=some (.slice none 0 0):=cell_of_heap aa.res 0;have r1:wr.cell? ⟨z,1,none⟩=some (.slice none 0 0):=cell_of_heap aa.res 1;have y0:wr.frozen? ⟨z,0,none⟩=false:=Lib.frozen_of_heap aa.res 0;have y1:wr.frozen? ⟨z,1,none⟩=false:=Lib.frozen_of_heap aa.res 1;clear aa hM;subst b9;go_upto_region 13 with fail;clear x1;go_wp2_with fail;have h1:=heap_setCell_same _ z 1 _ _ (.slice AY G.edges.length cY) (heap_setCell_same _ z 0 _ _ (.slice AX G.nodes.length cX) av.o.res);have ht:=(((Turn.refl (λb=>b=z) wr).setCell (p:=⟨z,0,none⟩) (.inr rfl) (.slice AX G.nodes.length cX)).setCell (p:=⟨z,1,none⟩) (.inr rfl) (.slice AY G.edges.length cY));obtain⟨W9,cv⟩:=a_ ((wr.setCell ⟨z,0,none⟩ (.slice AX G.nodes.length cX)).setCell ⟨z,1,none⟩ (.slice AY G.edges.length cY));rw[cv.o]at h1 ht ⊢;have k0:W9.cell? ⟨z,0,none⟩=some (.slice AX G.nodes.length cX):=cell_of_heap h1 0;have cz:W9.cell? ⟨z,1,none⟩=some (.slice AY G.edges.length cY):=cell_of_heap h1 1;have d4:=av.o.loc;have dd:=b_ av.o.box;have d7:=bi.o.size;refine bodyPost_ret (v:=.agg #[.slice AX G.nodes.length cX,.slice AY G.edges.length cY]) (by simp[results,Tryz.results30,go_sem,k0,cz]) rfl ⟨_,_,z2,rfl,?_,?_,?_,?_,?_⟩
     ·exact bi.o.trans ((av.o.below.mono (by rw[a8.o];omega)).trans (ht.below (λi _ h=>by rw[a8.o];omega) (by have:=av.o.below.size;omega)))
     ·rw[a8.o];omega
     ·have:=ht.size;omega
     ·exact (av.o.nodes.turn NoO.good ht (λb _ _ h=>by omega)).low (by rw[a8.o];omega)
     ·exact (av.o.own.turn EdO.good ht (λb _ _ h=>by omega)).wide ht.size (Nat.le_refl _)
end Go.Proofs.YtefhfadjajcmkaaGreatDoor
