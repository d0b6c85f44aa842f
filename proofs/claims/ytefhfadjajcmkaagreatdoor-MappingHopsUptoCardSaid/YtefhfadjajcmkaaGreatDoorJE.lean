/- Small words for the walks of the laws. -/
import Derived.Test.YtefhfadjajcmkaaGreatDoorJD
import Derived.Test.YtefhfadjajcmkaaGreatDoorSN
import Derived.Shelf.Slices.In.SortNone
set_option linter.unusedVariables false
set_option linter.unusedSimpArgs false
namespace Go.Proofs.YtefhfadjajcmkaaGreatDoor
open Go.Lib (cell_of_heap)
section
open Go Go.RowKit Go.Maps
def okK (P t:d_) (i k:Nat):Prop:=(P.get k).kind=0->(P.get i).text≠⟨#[]⟩->(P.get k).text=(P.get i).text->t.get i=t.get k
def okI (P t:d_) (i:Nat):Prop:=((P.get i).kind≠0->t.get i=P.get i)/\((P.get i).kind=0->∀k,k<i->okK P t i k)
theorem pa_ {P t:d_}:bk_ P t=true↔∀i,i<3->okI P t i:=by
 rw[h2_];constructor
 ·exact λh i hi=>⟨(h i hi).1,λh0 k b=>(h i hi).2 h0 k b⟩
 ·exact λh i hi=>⟨(h i hi).1,λh0 k b=>(h i hi).2 h0 k b⟩
theorem Bp_ {P t:d_} {i:Nat} (hi:i<3) (h:¬okI P t i):bk_ P t=false:=by
 cases e:bk_ P t with
 | false=>rfl
 | true=>exact absurd (pa_.1 e i hi) h
theorem pb_ {a b:h_} (h:bh_ a b=true):a=b:=by unfold bh_ at h;simpa using h
theorem mi_ {a b:h_} (h:bh_ a b=false):a≠b:=by unfold bh_ at h;simpa using h
set_option maxRecDepth 100000 in
set_option maxHeartbeats 8000000 in
theorem Fq_ (t P:d_) (ts ps:Nat->Value) (w:World) (hl:∀e,e<3->(t.get e).list=[]) (ht:∀e,e<3->∃A ag,ts e = .slice A 0 ag) (hp:∀e,e<3->∃B ag,ps e = .slice B (P.get e).list.length ag) :
    Calls Tryz.prog 61 #[.agg (s_ t ts),.agg (s_ P ps)] w (u_ (bk_ P t) w):=by
 have ao:=q_ (λ(W:World) (e:Nat) (p:e<3)=>(show Calls Tryz.prog 123 #[.agg (c_ (t.get e) (ts e)),.agg (c_ (P.get e) (ps e))] W (u_ (bh_ (t.get e) (P.get e)) W) from by obtain⟨A,ca,X⟩:=ht e p;obtain⟨B,cb,e2⟩:=hp e p;rw[X,e2];exact lp_ _ _ (hl e p) A B ca cb W));have ak:=q_ (λ(W:World) (e:Nat) (p:e<3) (d:Nat) (hd:d<3)=>(show Calls Tryz.prog 123 #[.agg (c_ (t.get e) (ts e)),.agg (c_ (t.get d) (ts d))] W (u_ (bh_ (t.get e) (t.get d)) W) from by obtain⟨A,ca,X⟩:=ht e p;obtain⟨B,cb,e2⟩:=ht d hd;have:=lp_ (t.get e) (t.get d) (hl e p) A B ca cb W;rw[hl d hd]at this;rw[X,e2];exact this));clear hl ht hp;unfold u_ at ao ak ⊢;have ai:=q_ (λ(i:Nat) (hi:i<3) (h:¬okI P t i) (W:World) (hb:Below w.heap.size w W)=>(show Ending.returned (Value.bool false) = .returned (.bool (bk_ P t))/\Below w.heap.size w W from ⟨congrArg (λb=>Ending.returned (Value.bool b)) (Bp_ hi h).symm,hb⟩));have aw:=q_ (λ(h:∀i,i<3->okI P t i) (W:World) (hb:Below w.heap.size w W)=>(show Ending.returned (Value.bool true) = .returned (.bool (bk_ P t))/\Below w.heap.size w W from ⟨congrArg (λb=>Ending.returned (Value.bool b)) (pa_.2 h).symm,hb⟩));obtain⟨M,a8⟩:=ah_ t ts;obtain⟨J,a4⟩:=ah_ P ps;rw[a8.o,a4.o];obtain⟨z,Hz⟩:=a_ w.heap.size;obtain⟨w1,aa⟩:=a_ ((w.alloc (.cells M 99)).alloc (.cells J 99));have az:=q_ (show AlM w z M J w1 from by rw[<-aa.o,<-Hz.o];exact⟨L_ w _ _,heap_alloc2_old w _ _,heap_alloc2_new w _ _⟩);have aj:=q_ (λ(W:World) (r:AlM w z M J W) (e:Nat) (p:e<3)=>(show W.cell? ⟨z+1,e*6,none⟩=some (.int .i64 (P.get e).kind) from by have:=kf_ (P:=P) (ps:=ps) (by rw[a4.o];exact r.h2) p 0 (.int .i64 (P.get e).kind) rfl;rwa [Nat.add_zero]at this));have ar:=q_ (λ(W:World) (r:AlM w z M J W) (e:Nat) (p:e<3)=>(show W.cell? ⟨z+1,e*6+3,none⟩=some (.string (P.get e).text) from kf_ (P:=P) (ps:=ps) (by rw[a4.o];exact r.h2) p 3 (.string (P.get e).text) rfl));go_enter Tryz.func61,Tryz.ntmps61
 go_upto_region 2 with fail;rw[aa.o,Hz.o];clear aa;go_loopw [7] (λs wx=>∃i:Nat,i<=3/\s = .int .i64 (i:Nat)/\Q_ (AlM w z M J wx)/\Q_ (∀e,e<i->okI P t e)) (λs _=>3-(intOf s).toNat)
 case atStart=>exact⟨0,by omega,rfl,az,q_ (λe p=>absurd p (by omega))⟩
 case round=>
  obtain⟨i,hi,rfl,E,ab⟩:=hrel;by_cases h3:i=3
  ·subst h3;have HE:=q_ (aw.o ab.o wr E.o.hb);clear hi;go_wp2_with fail;go_ret;exact HE.o
  ·have l:=q_ (show i<3 from by omega);have X:(i:Int)<3:=by omega
   have x:=q_ (λW=>b7_ (z+1) i l.o W);have ah:=q_ (λW=>b7_ z i l.o W);have ac:=q_ (λW r=>aj.o W r i l.o);have I:=q_ (λW r=>ar.o W r i l.o);have a5:=q_ (λ(W:World) (r:AlM w z M J W)=>el_ (aq_ r.h1 a8 l.o) 39 _ Tryz.underlying39 rfl (by kernel_rfl));have af:=q_ (λ(W:World) (r:AlM w z M J W)=>el_ (aq_ r.h2 a4 l.o) 39 _ Tryz.underlying39 rfl (by kernel_rfl));have R:=q_ (λW=>ao.o W i l.o);obtain⟨v,b7⟩:=a_ (i*6);obtain⟨kd,ae⟩:=a_ (P.get i).kind;obtain⟨Y,Z⟩:=a_ (P.get i).text;obtain⟨u,Hu⟩:=a_ (c_ (t.get i) (ts i));obtain⟨u2,b0⟩:=a_ (c_ (P.get i) (ps i));rw[b7.o]at ah x ac I a5 af;rw[ae.o]at ac;rw[Z.o]at I;rw[Hu.o]at a5 R;rw[b0.o]at af R;have q4:=ac.o wr E.o;by_cases a3:kd=0
   ·subst a3;have aq:=q_ ae.o;clear hi h3;go_upto_region 8 with ((with_reducible refine e_ (some 11) ?_);refine ek_ rfl (.pointer (some ⟨z+1,v,none⟩)) (k_ (x.o _)) ?_)
    clear q4 X;go_loopw [24] (λs wx=>∃k:Nat,k<=i/\s = .int .i64 (k:Nat)/\Q_ (AlM w z M J wx)/\Q_ (∀e,e<k->okK P t i e)) (λs _=>i-(intOf s).toNat)
    case atStart=>exact⟨0,by omega,rfl,E,q_ (λe p=>absurd p (by omega))⟩
    case round=>
     clear E;obtain⟨k,hk,rfl,E,a6⟩:=hrel;by_cases ap:k=i
     ·subst ap
      have O:=q_ (show ∀e,e<k+1->okI P t e from λe p=>by
       by_cases h:e=k
       ·subst h;exact⟨λh0=>absurd aq.o h0,λ_=>a6.o⟩
       ·exact ab.o e (by omega))
      clear hk;have h9:=l.o;go_wp2_with fail;go_roundw
      case rel=>exact⟨k+1,by have:=l.o;omega,by first | rfl | go_num,E,O⟩
      case measure=>have:=l.o;simp[intOf];omega
     ·have C:=q_ (show k<i from by omega);have X:(k:Int)<i:=by omega
      have y:=q_ (show k<3 from by have:=l.o;omega);have N:=q_ (λW=>b7_ (z+1) k y.o W);have am:=q_ (λW=>b7_ z k y.o W);have V:=q_ (λW r=>aj.o W r k y.o);have a1:=q_ (λW r=>ar.o W r k y.o);have a7:=q_ (λ(W:World) (r:AlM w z M J W)=>el_ (aq_ r.h1 a8 y.o) 39 _ Tryz.underlying39 rfl (by kernel_rfl));have U:=q_ (λW=>ak.o W i l.o k y.o);obtain⟨L,ay⟩:=a_ (k*6);obtain⟨kk,ad⟩:=a_ (P.get k).kind;obtain⟨xk,a9⟩:=a_ (P.get k).text;obtain⟨uk,b6⟩:=a_ (c_ (t.get k) (ts k));rw[ay.o]at am N V a1 a7;rw[ad.o]at V;rw[a9.o]at a1;rw[b6.o]at a7 U;rw[Hu.o]at U;obtain⟨b1,B1⟩:=a_ (!Y.toList.isEmpty);obtain⟨b2,B2⟩:=a_ (kk==0);obtain⟨b3,B3⟩:=a_ (xk.toList==Y.toList);obtain⟨b4,B4⟩:=a_ (bh_ (t.get i) (t.get k));rw[B4.o]at U
      have a2:=q_ (λh:okK P t i k=>(show ∀e,e<k+1->okK P t i e from λe p=>by
       by_cases h2:e=k
       ·subst h2;exact h
       ·exact a6.o e (by omega)))
      have av:=q_ (λ(h:¬okK P t i k)=>(show ¬okI P t i from λh2=>h (h2.2 aq.o k C.o)));clear hk ap;go_upto_region 10 with fail;clear X;refine wp_region_held_drew (S:=λW'=>AlM w z M J W') (by kernel_rfl) E.o.drew λf=>?_;refine V_.o ?_
      cases b1 with
      | false=>
       refine v_ 0 27 (.int .i64 (i:Nat)) f λf=>?_;(try simp only[Act.put,aT,aZ,aS]);refine J_ 1 28 (.pointer (some ⟨z+1,v,none⟩)) f (λw g=>?_) λf=>?_
       ·exact k_ (x.o w)
       (try simp only[Act.put,aT,aZ,aS]);refine v_ 2 29 (.pointer (some ⟨z+1,v+3,none⟩)) f λf=>?_;(try simp only[Act.put,aT,aZ,aS]);refine J_ 3 30 (.string Y) f (λw g=>?_) λf=>?_
       ·have n:=I.o w g;unfold o_;go_simp
       (try simp only[Act.put,aT,aZ,aS]);refine J_ 4 31 (.bool false) f (λw g=>?_) λf=>?_
       ·have n:=B1.o;unfold o_;go_simp
       (try simp only[Act.put,aT,aZ,aS]);refine v_ 5 32 (.bool false) f λf=>?_;(try simp only[Act.put,aT,aZ,aS]);refine l_ 6 33 (by kernel_rfl) (by rfl) (by kernel_rfl) (by kernel_rfl) (by kernel_rfl) (λ_ _ _ h=>h) f λf=>?_;(try simp only[Act.put,aT,aZ,aS]);refine l_ 7 34 (by kernel_rfl) (by rfl) (by kernel_rfl) (by kernel_rfl) (by kernel_rfl) (λ_ _ _ h=>h) f λf=>?_;(try simp only[Act.put,aT,aZ,aS]);refine l_ 8 35 (by kernel_rfl) (by rfl) (by kernel_rfl) (by kernel_rfl) (by kernel_rfl) (λ_ _ _ h=>h) f λf=>?_;(try simp only[Act.put,aT,aZ,aS]);refine l_ 9 36 (by kernel_rfl) (by rfl) (by kernel_rfl) (by kernel_rfl) (by kernel_rfl) (λ_ _ _ h=>h) f λf=>?_;(try simp only[Act.put,aT,aZ,aS]);refine l_ 10 37 (by kernel_rfl) (by rfl) (by kernel_rfl) (by kernel_rfl) (by kernel_rfl) (λ_ _ _ h=>h) f λf=>?_;(try simp only[Act.put,aT,aZ,aS]);refine v_ 11 38 (.bool false) f λf=>?_;(try simp only[Act.put,aT,aZ,aS]);refine v_ 12 39 (.bool false) f λf=>?_;(try simp only[Act.put,aT,aZ,aS]);refine l_ 13 40 (by kernel_rfl) (by rfl) (by kernel_rfl) (by kernel_rfl) (by kernel_rfl) (λ_ _ _ h=>h) f λf=>?_;(try simp only[Act.put,aT,aZ,aS]);refine l_ 14 41 (by kernel_rfl) (by rfl) (by kernel_rfl) (by kernel_rfl) (by kernel_rfl) (λ_ _ _ h=>h) f λf=>?_;(try simp only[Act.put,aT,aZ,aS]);refine l_ 15 42 (by kernel_rfl) (by rfl) (by kernel_rfl) (by kernel_rfl) (by kernel_rfl) (λ_ _ _ h=>h) f λf=>?_;(try simp only[Act.put,aT,aZ,aS]);refine l_ 16 43 (by kernel_rfl) (by rfl) (by kernel_rfl) (by kernel_rfl) (by kernel_rfl) (λ_ _ _ h=>h) f λf=>?_;(try simp only[Act.put,aT,aZ,aS]);refine l_ 17 44 (by kernel_rfl) (by rfl) (by kernel_rfl) (by kernel_rfl) (by kernel_rfl) (λ_ _ _ h=>h) f λf=>?_;(try simp only[Act.put,aT,aZ,aS]);refine l_ 18 45 (by kernel_rfl) (by rfl) (by kernel_rfl) (by kernel_rfl) (by kernel_rfl) (λ_ _ _ h=>h) f λf=>?_;(try simp only[Act.put,aT,aZ,aS]);refine l_ 19 46 (by kernel_rfl) (by rfl) (by kernel_rfl) (by kernel_rfl) (by kernel_rfl) (λ_ _ _ h=>h) f λf=>?_;(try simp only[Act.put,aT,aZ,aS]);refine l_ 20 47 (by kernel_rfl) (by rfl) (by kernel_rfl) (by kernel_rfl) (by kernel_rfl) (λ_ _ _ h=>h) f λf=>?_;(try simp only[Act.put,aT,aZ,aS]);refine l_ 21 48 (by kernel_rfl) (by rfl) (by kernel_rfl) (by kernel_rfl) (by kernel_rfl) (λ_ _ _ h=>h) f λf=>?_;(try simp only[Act.put,aT,aZ,aS]);refine v_ 22 49 (.bool false) f λf=>?_;(try simp only[Act.put,aT,aZ,aS]);refine v_ 23 50 (.bool false) f λf=>?_;(try simp only[Act.put,aT,aZ,aS]);refine l_ 24 51 (by kernel_rfl) (by rfl) (by kernel_rfl) (by kernel_rfl) (by kernel_rfl) (λ_ _ _ h=>h) f λf=>?_;(try simp only[Act.put,aT,aZ,aS]);refine l_ 25 52 (by kernel_rfl) (by rfl) (by kernel_rfl) (by kernel_rfl) (by kernel_rfl) (λ_ _ _ h=>h) f λf=>?_;(try simp only[Act.put,aT,aZ,aS]);refine l_ 26 53 (by kernel_rfl) (by rfl) (by kernel_rfl) (by kernel_rfl) (by kernel_rfl) (λ_ _ _ h=>h) f λf=>?_;(try simp only[Act.put,aT,aZ,aS]);refine l_ 27 54 (by kernel_rfl) (by rfl) (by kernel_rfl) (by kernel_rfl) (by kernel_rfl) (λ_ _ _ h=>h) f λf=>?_;(try simp only[Act.put,aT,aZ,aS]);refine l_ 28 55 (by kernel_rfl) (by rfl) (by kernel_rfl) (by kernel_rfl) (by kernel_rfl) (λ_ _ _ h=>h) f λf=>?_;(try simp only[Act.put,aT,aZ,aS]);refine l_ 29 56 (by kernel_rfl) (by rfl) (by kernel_rfl) (by kernel_rfl) (by kernel_rfl) (λ_ _ _ h=>h) f λf=>?_;(try simp only[Act.put,aT,aZ,aS]);refine l_ 30 57 (by kernel_rfl) (by rfl) (by kernel_rfl) (by kernel_rfl) (by kernel_rfl) (λ_ _ _ h=>h) f λf=>?_;(try simp only[Act.put,aT,aZ,aS]);refine l_ 31 58 (by kernel_rfl) (by rfl) (by kernel_rfl) (by kernel_rfl) (by kernel_rfl) (λ_ _ _ h=>h) f λf=>?_;(try simp only[Act.put,aT,aZ,aS]);refine v_ 32 59 (.bool false) f λf=>?_;(try simp only[Act.put,aT,aZ,aS]);refine⟨wpAnyH_done (by kernel_rfl) ?_ _⟩;clear f;have h9:=y.o
       have D:=q_ (a2.o (by intro _ h _;exfalso;have h2:=B1.o;rw[Z.o]at h;simp only[Bool.not_eq_false',List.isEmpty_iff]at h2;exact h (hk_ (by rw[<-ByteArray.toList_eq,h2]))));go_wp2_with fail;go_roundw
       case rel=>exact⟨k+1,by have:=C.o;omega,by first | rfl | go_num,q_ E.o.drew,D⟩
       case measure=>have:=C.o;simp[intOf];omega
      | true=>
       cases b2 with
       | false=>
        refine v_ 0 27 (.int .i64 (i:Nat)) f λf=>?_;(try simp only[Act.put,aT,aZ,aS]);refine J_ 1 28 (.pointer (some ⟨z+1,v,none⟩)) f (λw g=>?_) λf=>?_
        ·exact k_ (x.o w)
        (try simp only[Act.put,aT,aZ,aS]);refine v_ 2 29 (.pointer (some ⟨z+1,v+3,none⟩)) f λf=>?_;(try simp only[Act.put,aT,aZ,aS]);refine J_ 3 30 (.string Y) f (λw g=>?_) λf=>?_
        ·have n:=I.o w g;unfold o_;go_simp
        (try simp only[Act.put,aT,aZ,aS]);refine J_ 4 31 (.bool true) f (λw g=>?_) λf=>?_
        ·have n:=B1.o;unfold o_;go_simp
        (try simp only[Act.put,aT,aZ,aS]);refine v_ 5 32 (.bool true) f λf=>?_;(try simp only[Act.put,aT,aZ,aS]);refine v_ 6 33 (.int .i64 (k:Nat)) f λf=>?_;(try simp only[Act.put,aT,aZ,aS]);refine J_ 7 34 (.pointer (some ⟨z+1,L,none⟩)) f (λw g=>?_) λf=>?_
        ·exact k_ (N.o w)
        (try simp only[Act.put,aT,aZ,aS]);refine v_ 8 35 (.pointer (some ⟨z+1,L,none⟩)) f λf=>?_;(try simp only[Act.put,aT,aZ,aS]);refine J_ 9 36 (.int .i64 kk) f (λw g=>?_) λf=>?_
        ·have n:=V.o w g;unfold o_;go_simp
        (try simp only[Act.put,aT,aZ,aS]);refine J_ 10 37 (.bool false) f (λw g=>?_) λf=>?_
        ·have n:=B2.o;unfold o_;go_simp
        (try simp only[Act.put,aT,aZ,aS]);refine v_ 11 38 (.bool false) f λf=>?_;(try simp only[Act.put,aT,aZ,aS]);refine v_ 12 39 (.bool false) f λf=>?_;(try simp only[Act.put,aT,aZ,aS]);refine l_ 13 40 (by kernel_rfl) (by rfl) (by kernel_rfl) (by kernel_rfl) (by kernel_rfl) (λ_ _ _ h=>h) f λf=>?_;(try simp only[Act.put,aT,aZ,aS]);refine l_ 14 41 (by kernel_rfl) (by rfl) (by kernel_rfl) (by kernel_rfl) (by kernel_rfl) (λ_ _ _ h=>h) f λf=>?_;(try simp only[Act.put,aT,aZ,aS]);refine l_ 15 42 (by kernel_rfl) (by rfl) (by kernel_rfl) (by kernel_rfl) (by kernel_rfl) (λ_ _ _ h=>h) f λf=>?_;(try simp only[Act.put,aT,aZ,aS]);refine l_ 16 43 (by kernel_rfl) (by rfl) (by kernel_rfl) (by kernel_rfl) (by kernel_rfl) (λ_ _ _ h=>h) f λf=>?_;(try simp only[Act.put,aT,aZ,aS]);refine l_ 17 44 (by kernel_rfl) (by rfl) (by kernel_rfl) (by kernel_rfl) (by kernel_rfl) (λ_ _ _ h=>h) f λf=>?_;(try simp only[Act.put,aT,aZ,aS]);refine l_ 18 45 (by kernel_rfl) (by rfl) (by kernel_rfl) (by kernel_rfl) (by kernel_rfl) (λ_ _ _ h=>h) f λf=>?_;(try simp only[Act.put,aT,aZ,aS]);refine l_ 19 46 (by kernel_rfl) (by rfl) (by kernel_rfl) (by kernel_rfl) (by kernel_rfl) (λ_ _ _ h=>h) f λf=>?_;(try simp only[Act.put,aT,aZ,aS]);refine l_ 20 47 (by kernel_rfl) (by rfl) (by kernel_rfl) (by kernel_rfl) (by kernel_rfl) (λ_ _ _ h=>h) f λf=>?_;(try simp only[Act.put,aT,aZ,aS]);refine l_ 21 48 (by kernel_rfl) (by rfl) (by kernel_rfl) (by kernel_rfl) (by kernel_rfl) (λ_ _ _ h=>h) f λf=>?_;(try simp only[Act.put,aT,aZ,aS]);refine v_ 22 49 (.bool false) f λf=>?_;(try simp only[Act.put,aT,aZ,aS]);refine v_ 23 50 (.bool false) f λf=>?_;(try simp only[Act.put,aT,aZ,aS]);refine l_ 24 51 (by kernel_rfl) (by rfl) (by kernel_rfl) (by kernel_rfl) (by kernel_rfl) (λ_ _ _ h=>h) f λf=>?_;(try simp only[Act.put,aT,aZ,aS]);refine l_ 25 52 (by kernel_rfl) (by rfl) (by kernel_rfl) (by kernel_rfl) (by kernel_rfl) (λ_ _ _ h=>h) f λf=>?_;(try simp only[Act.put,aT,aZ,aS]);refine l_ 26 53 (by kernel_rfl) (by rfl) (by kernel_rfl) (by kernel_rfl) (by kernel_rfl) (λ_ _ _ h=>h) f λf=>?_;(try simp only[Act.put,aT,aZ,aS]);refine l_ 27 54 (by kernel_rfl) (by rfl) (by kernel_rfl) (by kernel_rfl) (by kernel_rfl) (λ_ _ _ h=>h) f λf=>?_;(try simp only[Act.put,aT,aZ,aS]);refine l_ 28 55 (by kernel_rfl) (by rfl) (by kernel_rfl) (by kernel_rfl) (by kernel_rfl) (λ_ _ _ h=>h) f λf=>?_;(try simp only[Act.put,aT,aZ,aS]);refine l_ 29 56 (by kernel_rfl) (by rfl) (by kernel_rfl) (by kernel_rfl) (by kernel_rfl) (λ_ _ _ h=>h) f λf=>?_;(try simp only[Act.put,aT,aZ,aS]);refine l_ 30 57 (by kernel_rfl) (by rfl) (by kernel_rfl) (by kernel_rfl) (by kernel_rfl) (λ_ _ _ h=>h) f λf=>?_;(try simp only[Act.put,aT,aZ,aS]);refine l_ 31 58 (by kernel_rfl) (by rfl) (by kernel_rfl) (by kernel_rfl) (by kernel_rfl) (λ_ _ _ h=>h) f λf=>?_;(try simp only[Act.put,aT,aZ,aS]);refine v_ 32 59 (.bool false) f λf=>?_;(try simp only[Act.put,aT,aZ,aS]);refine⟨wpAnyH_done (by kernel_rfl) ?_ _⟩;clear f;have h9:=y.o
        have D:=q_ (a2.o (by
         intro h _ _;exfalso;have h2:=B2.o;rw[ad.o]at h;rw[h]at h2
         cases h2))
        go_wp2_with fail;go_roundw
        case rel=>exact⟨k+1,by have:=C.o;omega,by first | rfl | go_num,q_ E.o.drew,D⟩
        case measure=>have:=C.o;simp[intOf];omega
       | true=>
        cases b3 with
        | false=>
         refine v_ 0 27 (.int .i64 (i:Nat)) f λf=>?_;(try simp only[Act.put,aT,aZ,aS]);refine J_ 1 28 (.pointer (some ⟨z+1,v,none⟩)) f (λw g=>?_) λf=>?_
         ·exact k_ (x.o w)
         (try simp only[Act.put,aT,aZ,aS]);refine v_ 2 29 (.pointer (some ⟨z+1,v+3,none⟩)) f λf=>?_;(try simp only[Act.put,aT,aZ,aS]);refine J_ 3 30 (.string Y) f (λw g=>?_) λf=>?_
         ·have n:=I.o w g;unfold o_;go_simp
         (try simp only[Act.put,aT,aZ,aS]);refine J_ 4 31 (.bool true) f (λw g=>?_) λf=>?_
         ·have n:=B1.o;unfold o_;go_simp
         (try simp only[Act.put,aT,aZ,aS]);refine v_ 5 32 (.bool true) f λf=>?_;(try simp only[Act.put,aT,aZ,aS]);refine v_ 6 33 (.int .i64 (k:Nat)) f λf=>?_;(try simp only[Act.put,aT,aZ,aS]);refine J_ 7 34 (.pointer (some ⟨z+1,L,none⟩)) f (λw g=>?_) λf=>?_
         ·exact k_ (N.o w)
         (try simp only[Act.put,aT,aZ,aS]);refine v_ 8 35 (.pointer (some ⟨z+1,L,none⟩)) f λf=>?_;(try simp only[Act.put,aT,aZ,aS]);refine J_ 9 36 (.int .i64 kk) f (λw g=>?_) λf=>?_
         ·have n:=V.o w g;unfold o_;go_simp
         (try simp only[Act.put,aT,aZ,aS]);refine J_ 10 37 (.bool true) f (λw g=>?_) λf=>?_
         ·have n:=B2.o;unfold o_;go_simp
         (try simp only[Act.put,aT,aZ,aS]);refine v_ 11 38 (.bool true) f λf=>?_;(try simp only[Act.put,aT,aZ,aS]);refine v_ 12 39 (.bool true) f λf=>?_;(try simp only[Act.put,aT,aZ,aS]);refine v_ 13 40 (.int .i64 (k:Nat)) f λf=>?_;(try simp only[Act.put,aT,aZ,aS]);refine J_ 14 41 (.pointer (some ⟨z+1,L,none⟩)) f (λw g=>?_) λf=>?_
         ·exact k_ (N.o w)
         (try simp only[Act.put,aT,aZ,aS]);refine v_ 15 42 (.pointer (some ⟨z+1,L+3,none⟩)) f λf=>?_;(try simp only[Act.put,aT,aZ,aS]);refine J_ 16 43 (.string xk) f (λw g=>?_) λf=>?_
         ·have n:=a1.o w g;unfold o_;go_simp
         (try simp only[Act.put,aT,aZ,aS]);refine v_ 17 44 (.int .i64 (i:Nat)) f λf=>?_;(try simp only[Act.put,aT,aZ,aS]);refine J_ 18 45 (.pointer (some ⟨z+1,v,none⟩)) f (λw g=>?_) λf=>?_
         ·exact k_ (x.o w)
         (try simp only[Act.put,aT,aZ,aS]);refine v_ 19 46 (.pointer (some ⟨z+1,v+3,none⟩)) f λf=>?_;(try simp only[Act.put,aT,aZ,aS]);refine J_ 20 47 (.string Y) f (λw g=>?_) λf=>?_
         ·have n:=I.o w g;unfold o_;go_simp
         (try simp only[Act.put,aT,aZ,aS]);refine J_ 21 48 (.bool false) f (λw g=>?_) λf=>?_
         ·have n:=B3.o;unfold o_;go_simp
         (try simp only[Act.put,aT,aZ,aS]);refine v_ 22 49 (.bool false) f λf=>?_;(try simp only[Act.put,aT,aZ,aS]);refine v_ 23 50 (.bool false) f λf=>?_;(try simp only[Act.put,aT,aZ,aS]);refine l_ 24 51 (by kernel_rfl) (by rfl) (by kernel_rfl) (by kernel_rfl) (by kernel_rfl) (λ_ _ _ h=>h) f λf=>?_;(try simp only[Act.put,aT,aZ,aS]);refine l_ 25 52 (by kernel_rfl) (by rfl) (by kernel_rfl) (by kernel_rfl) (by kernel_rfl) (λ_ _ _ h=>h) f λf=>?_;(try simp only[Act.put,aT,aZ,aS]);refine l_ 26 53 (by kernel_rfl) (by rfl) (by kernel_rfl) (by kernel_rfl) (by kernel_rfl) (λ_ _ _ h=>h) f λf=>?_;(try simp only[Act.put,aT,aZ,aS]);refine l_ 27 54 (by kernel_rfl) (by rfl) (by kernel_rfl) (by kernel_rfl) (by kernel_rfl) (λ_ _ _ h=>h) f λf=>?_;(try simp only[Act.put,aT,aZ,aS]);refine l_ 28 55 (by kernel_rfl) (by rfl) (by kernel_rfl) (by kernel_rfl) (by kernel_rfl) (λ_ _ _ h=>h) f λf=>?_;(try simp only[Act.put,aT,aZ,aS]);refine l_ 29 56 (by kernel_rfl) (by rfl) (by kernel_rfl) (by kernel_rfl) (by kernel_rfl) (λ_ _ _ h=>h) f λf=>?_;(try simp only[Act.put,aT,aZ,aS]);refine l_ 30 57 (by kernel_rfl) (by rfl) (by kernel_rfl) (by kernel_rfl) (by kernel_rfl) (λ_ _ _ h=>h) f λf=>?_;(try simp only[Act.put,aT,aZ,aS]);refine l_ 31 58 (by kernel_rfl) (by rfl) (by kernel_rfl) (by kernel_rfl) (by kernel_rfl) (λ_ _ _ h=>h) f λf=>?_;(try simp only[Act.put,aT,aZ,aS]);refine v_ 32 59 (.bool false) f λf=>?_;(try simp only[Act.put,aT,aZ,aS]);refine⟨wpAnyH_done (by kernel_rfl) ?_ _⟩;clear f;have h9:=y.o
         have D:=q_ (a2.o (by intro _ _ h;exfalso;have h2:=B3.o;rw[a9.o,Z.o]at h;rw[h]at h2;simp at h2));go_wp2_with fail;go_roundw
         case rel=>exact⟨k+1,by have:=C.o;omega,by first | rfl | go_num,q_ E.o.drew,D⟩
         case measure=>have:=C.o;simp[intOf];omega
        | true=>
         refine v_ 0 27 (.int .i64 (i:Nat)) f λf=>?_;(try simp only[Act.put,aT,aZ,aS]);refine J_ 1 28 (.pointer (some ⟨z+1,v,none⟩)) f (λw g=>?_) λf=>?_
         ·exact k_ (x.o w)
         (try simp only[Act.put,aT,aZ,aS]);refine v_ 2 29 (.pointer (some ⟨z+1,v+3,none⟩)) f λf=>?_;(try simp only[Act.put,aT,aZ,aS]);refine J_ 3 30 (.string Y) f (λw g=>?_) λf=>?_
         ·have n:=I.o w g;unfold o_;go_simp
         (try simp only[Act.put,aT,aZ,aS]);refine J_ 4 31 (.bool true) f (λw g=>?_) λf=>?_
         ·have n:=B1.o;unfold o_;go_simp
         (try simp only[Act.put,aT,aZ,aS]);refine v_ 5 32 (.bool true) f λf=>?_;(try simp only[Act.put,aT,aZ,aS]);refine v_ 6 33 (.int .i64 (k:Nat)) f λf=>?_;(try simp only[Act.put,aT,aZ,aS]);refine J_ 7 34 (.pointer (some ⟨z+1,L,none⟩)) f (λw g=>?_) λf=>?_
         ·exact k_ (N.o w)
         (try simp only[Act.put,aT,aZ,aS]);refine v_ 8 35 (.pointer (some ⟨z+1,L,none⟩)) f λf=>?_;(try simp only[Act.put,aT,aZ,aS]);refine J_ 9 36 (.int .i64 kk) f (λw g=>?_) λf=>?_
         ·have n:=V.o w g;unfold o_;go_simp
         (try simp only[Act.put,aT,aZ,aS]);refine J_ 10 37 (.bool true) f (λw g=>?_) λf=>?_
         ·have n:=B2.o;unfold o_;go_simp
         (try simp only[Act.put,aT,aZ,aS]);refine v_ 11 38 (.bool true) f λf=>?_;(try simp only[Act.put,aT,aZ,aS]);refine v_ 12 39 (.bool true) f λf=>?_;(try simp only[Act.put,aT,aZ,aS]);refine v_ 13 40 (.int .i64 (k:Nat)) f λf=>?_;(try simp only[Act.put,aT,aZ,aS]);refine J_ 14 41 (.pointer (some ⟨z+1,L,none⟩)) f (λw g=>?_) λf=>?_
         ·exact k_ (N.o w)
         (try simp only[Act.put,aT,aZ,aS]);refine v_ 15 42 (.pointer (some ⟨z+1,L+3,none⟩)) f λf=>?_;(try simp only[Act.put,aT,aZ,aS]);refine J_ 16 43 (.string xk) f (λw g=>?_) λf=>?_
         ·have n:=a1.o w g;unfold o_;go_simp
         (try simp only[Act.put,aT,aZ,aS]);refine v_ 17 44 (.int .i64 (i:Nat)) f λf=>?_;(try simp only[Act.put,aT,aZ,aS]);refine J_ 18 45 (.pointer (some ⟨z+1,v,none⟩)) f (λw g=>?_) λf=>?_
         ·exact k_ (x.o w)
         (try simp only[Act.put,aT,aZ,aS]);refine v_ 19 46 (.pointer (some ⟨z+1,v+3,none⟩)) f λf=>?_;(try simp only[Act.put,aT,aZ,aS]);refine J_ 20 47 (.string Y) f (λw g=>?_) λf=>?_
         ·have n:=I.o w g;unfold o_;go_simp
         (try simp only[Act.put,aT,aZ,aS]);refine J_ 21 48 (.bool true) f (λw g=>?_) λf=>?_
         ·have n:=B3.o;unfold o_;go_simp
         (try simp only[Act.put,aT,aZ,aS]);refine v_ 22 49 (.bool true) f λf=>?_;(try simp only[Act.put,aT,aZ,aS]);refine v_ 23 50 (.bool true) f λf=>?_;(try simp only[Act.put,aT,aZ,aS]);refine v_ 24 51 (.int .i64 (i:Nat)) f λf=>?_;(try simp only[Act.put,aT,aZ,aS]);refine J_ 25 52 (.pointer (some ⟨z,v,none⟩)) f (λw g=>?_) λf=>?_
         ·exact k_ (ah.o w)
         (try simp only[Act.put,aT,aZ,aS]);refine J_ 26 53 (.agg u) f (λw g=>?_) λf=>?_
         ·exact k_ (a5.o w g)
         (try simp only[Act.put,aT,aZ,aS]);refine v_ 27 54 (.int .i64 (k:Nat)) f λf=>?_;(try simp only[Act.put,aT,aZ,aS]);refine J_ 28 55 (.pointer (some ⟨z,L,none⟩)) f (λw g=>?_) λf=>?_
         ·exact k_ (am.o w)
         (try simp only[Act.put,aT,aZ,aS]);refine J_ 29 56 (.agg uk) f (λw g=>?_) λf=>?_
         ·exact k_ (a7.o w g)
         (try simp only[Act.put,aT,aZ,aS]);refine tkC 30 λK hK=>?_;change Oper.wp _ ⟨some 57,_,_,_,_,_⟩ _ _ _ _;go_simp;refine (U.o _).mono ?_;rintro e w2 ⟨rfl,a0⟩;have O:=q_ (E.o.drew.on a0);clear a0 U;dsimp only;refine hK.out _ _ O.o λf=>?_;clear hK K;(try simp only[Act.put,aT,aZ,aS]);refine v_ 31 58 (.bool (!b4)) f λf=>?_;(try simp only[Act.put,aT,aZ,aS]);refine v_ 32 59 (.bool (!b4)) f λf=>?_;(try simp only[Act.put,aT,aZ,aS]);refine⟨wpAnyH_done (by kernel_rfl) ?_ _⟩;clear f
         cases b4 with
         | true=>
          have h9:=y.o;have D:=q_ (a2.o (λ_ _ _=>pb_ B4.o));go_wp2_with fail;go_roundw
          case rel=>exact⟨k+1,by have:=C.o;omega,by first | rfl | go_num,O,D⟩
          case measure=>have:=C.o;simp[intOf];omega
         | false=>
          have HX:=q_ (ai.o i l.o (av.o (λh=>by
           refine mi_ B4.o (h ?_ ?_ ?_)
           ·rw[ad.o];exact eq_of_beq B2.o
           ·rw[Z.o];intro h2;have h3:=B1.o;rw[h2]at h3;rw[ByteArray.toList_eq]at h3;simp at h3
           ·rw[a9.o,Z.o];exact hk_ (by rw[<-ByteArray.toList_eq,<-ByteArray.toList_eq];exact eq_of_beq B3.o))) _ O.o.hb)
          go_wp2_with fail;go_ret;exact HX.o
   ·have b5:(kd != 0)=true:=by simp[a3]
    have au:=q_ (show (P.get i).kind≠0 from by rw[ae.o];exact a3);obtain⟨b4,B4⟩:=a_ (bh_ (t.get i) (P.get i));rw[B4.o]at R;clear hi h3 a3;go_upto_region 5 with ((with_reducible refine e_ (some 11) ?_);refine ek_ rfl (.pointer (some ⟨z+1,v,none⟩)) (k_ (x.o _)) ?_)
    clear q4 X b5;refine wp_region_held_drew (S:=λW'=>AlM w z M J W') (by kernel_rfl) E.o.drew λf=>?_;refine V_.o ?_;refine v_ 0 15 (.int .i64 (i:Nat)) f λf=>?_;(try simp only[Act.put,aT,aZ,aS]);refine J_ 1 16 (.pointer (some ⟨z,v,none⟩)) f (λw g=>?_) λf=>?_
    ·exact k_ (ah.o w)
    (try simp only[Act.put,aT,aZ,aS]);refine J_ 2 17 (.agg u) f (λw g=>?_) λf=>?_
    ·exact k_ (a5.o w g)
    (try simp only[Act.put,aT,aZ,aS]);refine v_ 3 18 (.int .i64 (i:Nat)) f λf=>?_;(try simp only[Act.put,aT,aZ,aS]);refine J_ 4 19 (.pointer (some ⟨z+1,v,none⟩)) f (λw g=>?_) λf=>?_
    ·exact k_ (x.o w)
    (try simp only[Act.put,aT,aZ,aS]);refine J_ 5 20 (.agg u2) f (λw g=>?_) λf=>?_
    ·exact k_ (af.o w g)
    (try simp only[Act.put,aT,aZ,aS]);refine tkC 6 λK hK=>?_;change Oper.wp _ ⟨some 21,_,_,_,_,_⟩ _ _ _ _;go_simp;refine (R.o _).mono ?_;rintro e w2 ⟨rfl,a0⟩;have O:=q_ (E.o.drew.on a0);clear a0 R;dsimp only;refine hK.out _ _ O.o λf=>?_;clear hK K;(try simp only[Act.put,aT,aZ,aS]);refine v_ 7 22 (.bool (!b4)) f λf=>?_;(try simp only[Act.put,aT,aZ,aS]);refine⟨wpAnyH_done (by kernel_rfl) ?_ _⟩;clear f
    cases b4 with
    | true=>
     have D:=q_ (show ∀e,e<i+1->okI P t e from λe p=>by
      by_cases h:e=i
      ·subst h;exact⟨λ_=>pb_ B4.o,λh0=>absurd h0 au.o⟩
      ·exact ab.o e (by omega))
     have h9:=l.o;go_wp2_with fail;go_roundw
     case rel=>exact⟨i+1,by have:=l.o;omega,by first | rfl | go_num,O,D⟩
     case measure=>have:=l.o;simp[intOf];omega
    | false=>
     have HX:=q_ (ai.o i l.o (λh=>mi_ B4.o (h.1 au.o)) _ O.o.hb);go_wp2_with fail;go_ret;exact HX.o
end
section
open Go Go.RowKit Go.Shelf Go.Lib Go.Sort Go.Proofs Go.Maps
theorem Bq_ {w:World} {ix:List Nat} {s:Value} (l:w.ownsRow 0 3 1 s ix.length (ixC ix)) (N:ix.length<=100000000) :
    Calls Tryz.prog 62 #[s] w λe w'=>e = .returned (.tuple #[])/\∃ix':List Nat,ix'.Perm ix /\
     ix'.Pairwise (λa b=>a<=b)/\w'.ownsRow 0 3 1 s ix'.length (ixC ix')/\Turn (λb=>s.ownBlock=some b) w w':=by
 rcases l.2 with⟨f,h0⟩ | ⟨b,A,O,f,_,p,B,z,D,L⟩
 ·subst f;have J:ix=[]:=List.eq_nil_of_length_eq_zero h0;subst J;refine (Any.slices_Sort_int_none Tryz.lays189 none 0 w).mono λe w' ⟨f,g⟩=>⟨f,[],List.Perm.refl _,List.Pairwise.nil,?_,?_⟩
  ·rw[g];exact l
  ·rw[g];exact Turn.refl _ _
 ·subst f;have C:=b_ p;have r:(ix.map λk:Nat=>(k:Int)).length=ix.length:=List.length_map _
  have M:Holds (Value.int .i64) w b 0 (ix.map λk:Nat=>(k:Int)).toArray:=by
   intro j o;refine⟨?_,by simp[World.frozen?,p]⟩;have E:j<ix.length:=by rw[List.size_toArray,r]at o;exact o
   have h2:=l.cellAt j (by omega);rw[Nat.zero_add,h2,getElem!_pos _ j o];unfold ixC;rw[List.getElem?_map,List.getElem?_eq_getElem E];simp
  have t:=Any.slices_Sort_int Tryz.lays189 b 0 A (ix.map λk:Nat=>(k:Int)) w M C (by rw[r];omega);rw[r]at t;refine t.mono λe w' ⟨f,m,os,g⟩=>⟨f,ix.mergeSort (λx y=>decide (x<=y)),List.mergeSort_perm _ _,?_,?_,?_⟩
  ·exact (List.pairwise_mergeSort (le:=λx y:Nat=>decide (x<=y)) (λa b c h1 h2=>by simp at h1 h2 ⊢;omega) (λa b=>by simp;omega) ix).imp λh=>by simpa using h
  ·have I:(ix.map λk:Nat=>(k:Int)).mergeSort (λx y=>decide (x<=y))=(ix.mergeSort (λx y=>decide (x<=y))).map λk:Nat=>(k:Int):=
     (List.map_mergeSort (λa _ b _=>by simp)).symm
   rw[I]at g;obtain⟨u,o⟩:∃u,u=ix.mergeSort (λx y=>decide (x<=y)):=⟨_,rfl⟩;have v:u.length=ix.length:=by rw[o,List.length_mergeSort]
   rw[<-o]at g ⊢;rw[v,g];have:=sx_ (e:=3) (m:=m) (os:=os) (sz:=1) (Value.int .i64) (d:=(u.map λk:Nat=>(k:Int)).toArray) p B z D (by simp[v]);unfold ixC;rw[List.map_map]at this;exact this
  ·rw[g];exact (gn_ (enc:=Value.int .i64) (n:=m) (os:=os)).mono λi _ hi=>by rw[hi];rfl
end
section
open Go Go.RowKit Go.Maps
def hp_ (F:Nat->Prop) (w:World) (q j:Nat) (T:List d_) (c:fd_):Prop:=
 ∃(b:Nat) (ix:List Nat) (cs:Nat->Array Value) (S s:Value) (at_ en:Nat->Nat),f5_ F q b j T ix cs S s c.way.length at_ en w/\hm_ (Kof T ix) (ak_ j) c at_ en
section
variable {F:Nat->Prop} {q c j:Nat} {T:List d_} {ix:List Nat} {cs:Nat->Array Value} {S s:Value} {d:Nat} {at_ en:Nat->Nat} {w w':World}
end
theorem hp_.on {F:Nat->Prop} {w w':World} {q j:Nat} {T:List d_} {c:fd_} (h:hp_ F w q j T c) (hb:Below w.heap.size w w'):hp_ F w' q j T c:=by obtain⟨e,ix,cs,S,s,at_,en,f,b⟩:=h;exact⟨e,ix,cs,S,s,at_,en,f.on hb,b⟩
theorem hm_.stood {K:List d_} {w:Way} {c:fd_} {at_ en:Nat->Nat} (h:hm_ K w c at_ en):decide (0<c.way.length/\at_ c.way.length<en c.way.length)=(decide (0<c.way.length) && !c.fin):=by
 by_cases h0:0<c.way.length
 ·have:=h.stands h0
  cases hf:c.fin with
  | true=>
   rw[hf]at this;rw[decide_eq_false (λh=>by have:=this.1 h.2;cases this)];simp
  | false=>
   rw[hf]at this;rw[decide_eq_true ⟨h0,this.2 rfl⟩,decide_eq_true h0];rfl
 ·rw[decide_eq_false (λh=>h0 h.1),decide_eq_false h0];rfl
theorem b1_ {P:Program} {f:Func} {a u:Tmp} {T o:TypeId} {w:World} (h:f.results=#[.cell a T,.tmp u]) {b:Array Value} {g:Nat} (ht:b.getD a undef = .pointer (some ⟨g,0,none⟩)) {c:Array Value} (l:w.heap[g]?=some (.cells c o (0,0)))
    (d:TypeDesc) (p:P.underlying T=some d) (k:d.isRow=true) (hi:(P.info? T).map (·.size)=some c.size) {x:Value} (n:b.getD u undef=x):(results f b).run P w = .ok (.tuple #[.agg c,x]) w:=by
 have:=run_loadVar_mid (P:=P) w g 0 T c.toList d (p_ l) p k (by rw[Array.length_toList];exact hi);rw[Array.toArray_toList]at this;have e:b[a]?.getD undef = .pointer (some ⟨g,0,none⟩):=by rw[<-ht];simp
 have i:b[u]?.getD undef=x:=by rw[<-n];simp
 simp[results,h,e,asAddr,this,i]
def m5_ (t:ByteArray):h_:=.mk 8 false 0 t ⟨#[]⟩ []
theorem Fr_ (t:d_) (W:World):(Instr.build 41 #[(0,.agg (c_ t.s (.slice none 0 0))),(1,.agg (c_ t.p (.slice none 0 0))),(2,.agg (c_ t.o (.slice none 0 0)))]).run Tryz.prog W = .ok (.agg (s_ t s1_)) W:=by kernel_rfl
section
variable {P:Program} {ops:Array Oper} {rest:List Oper} {op:Oper} {a:Act} {w:World} {Q:Exit->Act->World->Prop}
theorem xr_ (f:op.guard=none) (ty:TypeId) (n:Nat) (b:Array (Nat×Operand)) (k:op.op = .buildSlice ty n b) (ps:Array (Nat×Value)) (g:(b.map λ(i,x)=>(i,a.eval x))=ps) (v:Value) (w':World) (o:(Instr.buildSlice ty n ps).run P w = .ok v w') (h:wpList P ops Q rest (a.put op.dst v) w'):wpList P ops Q (op::rest) a w:=
 wpList_plain f λ_ l=>by
  unfold Oper.wp execOp;simp only[k];have e:(Instr.buildSlice ty n (b.map λ(i,x)=>(i,a.eval x))).run P w = .ok v w':=by rw[g];exact o
  simp only[Sem.run_bind,Sem.run_pure,e,Result.andThen_ok];exact l _ _ h
end
def d_.set (t:d_) (p:Nat) (v:h_):d_:=if p=0 then ⟨v,t.p,t.o⟩ else if p=1 then ⟨t.s,v,t.o⟩ else ⟨t.s,t.p,v⟩
end
section
open Go
section
variable {T:List d_} {w:Way}
end
def wv (w:Way) (t:d_) (d:Nat):List h_:=[t.get (w.get 0),t.get (w.get 1),t.get (w.get 2)].take d
section
variable {T K:List d_} {w:Way}
theorem xs_ (t:d_) {d:Nat} (b:d<=3):(wv w t d).length=d:=by unfold wv;rw[List.length_take];simp only[List.length_cons,List.length_nil];omega
theorem Kc_ (t:d_) {d e:Nat} (b:e<d) (f:d<=3):(wv w t d)[e]?=some (t.get (w.get e)):=by unfold wv;rw[List.getElem?_take_of_lt b];rcases (show e=0\/e=1\/e=2 by omega) with rfl | rfl | rfl<;>rfl
theorem Br_ {t u:d_} {d:Nat} (f:d<=3):bb_ w (wv w t d) u↔∀e,e<d->u.get (w.get e)=t.get (w.get e):=by
 constructor
 ·intro h e i;exact h e _ (Kc_ t i f)
 ·intro h e v b;have g:e<d:=by have:=(List.getElem?_eq_some_iff.1 b).1;rwa [xs_ t f]at this
  rw[Kc_ t g f]at b;injection b with b;rw[<-b];exact h e g
theorem Mh_ (g:gz_ T K w) {x:d_} {d:Nat} (p:d<=3) {n m r:Nat} {s t u:d_} (l:K[n]?=some s) (ht:K[m]?=some t) (A:K[r]?=some u) (h1:n<=m) (h2:m<=r)
    (f:bb_ w (wv w x d) s) (k:bb_ w (wv w x d) u):bb_ w (wv w x d) t:=by
 rw[Br_ p]at f k ⊢;intro e;induction e using Nat.strongRecOn with
 | _ e o=>
  intro h;have y:=jb_ (d:=e) (by omega) (g.le l ht h1) λb i=>by rw[f b (by omega),o b i (by omega)];exact c3_ _
  have z:=jb_ (d:=e) (by omega) (g.le ht A h2) λb i=>by rw[k b (by omega),o b i (by omega)];exact c3_ _
  rw[f e h]at y;rw[k e h]at z;have B:=ep_ (t.get (w.get e)) (x.get (w.get e));have v:X_ (x.get (w.get e)):=by rw[<-f e h];exact (g.scal' l).get _
  exact ej_ ((g.scal' ht).get _) v (by omega)
def DnA (K:List d_) (w:Way) (m d:Nat) (c:fd_):Prop:=∃t,K[m]?=some t/\d<3/\c=⟨wv w t d,false⟩/\∀n u,n<m->K[n]?=some u->¬bb_ w (wv w t d) u
def UpA (K:List d_) (w:Way) (m d:Nat) (c:fd_):Prop:=∃s,K[m]?=some s/\d<3/\c=⟨wv w s (d+1),false⟩/\∀n u,m<n->K[n]?=some u->¬bb_ w (wv w s (d+1)) u
theorem Fs_ (b:0<K.length):DnA K w 0 0 ⟨[],false⟩:=⟨K[0],List.getElem?_eq_getElem b,by omega,rfl,λn u h=>absurd h (by omega)⟩
end
end
section
open Go Go.RowKit Go.Maps
theorem zc_:(Tryz.prog.info? 41).map (λi=>(i.zero,i.size,i.bytes))=some (some (.agg #[.int .i64 0,.bool false,.int .i64 0,.string ⟨#[]⟩,.string ⟨#[]⟩,.slice none 0 0,.int .i64 0,.bool false,.int .i64 0,.string ⟨#[]⟩,.string ⟨#[]⟩,.slice none 0 0,.int .i64 0,.bool false,.int .i64 0,.string ⟨#[]⟩,.string ⟨#[]⟩,.slice none 0 0]),18,240):=by kernel_rfl
theorem vl_ {op:Oper} {a:Act} {K:Act->World->Prop} {Q:Exit->Act->World->Prop} (s x:Operand) (Z:op.op = .call { callee:=.builtin .append,args:=#[s,x],argTypes:=#[22,22] })
    {wr:World} {F:Nat->Prop} {L:List d_} {S:Value} {t:d_} {c:Array Value} {n:Nat} (hS:a.eval s=S) (o:B_ 41 18 TrS wr F L S) (I:L.length=n) (N:a.eval x = .slice (some ⟨wr.heap.size,0,none⟩) 1 1) (l:∀w F,TrS w F t c) (R:n<=1000000) (V:∀b,F b->b<wr.heap.size)
    (h:∀g i w',B_ 41 18 TrS w' (λb=>F b\/b=g) (L++[t]) (.slice (some ⟨g,0,none⟩) (n+1) i)->wr.grownBy w' S.ownBlock->(S.ownBlock=some g\/wr.heap.size<=g)->g<w'.heap.size->K (a.put op.dst (.slice (some ⟨g,0,none⟩) (n+1) i)) w') :
    op.wp Tryz.prog a (wr.alloc (.cells c 41)) K Q:=by
 subst I;obtain⟨O,hi,D,B,p⟩:=info_parts zc_;obtain⟨cs,f,X,C,hr⟩:=o;have k:c.size=18:=by obtain⟨_,_,ss,_,e⟩:=l wr F;rw[e];rfl
 have v:∀u∈c.toList,u.oneCell'=true:=by obtain⟨_,_,ss,Y,e⟩:=l wr F;rw[e];exact b0_ t ss λq E=>by obtain⟨A,M,e⟩:=Y q E;exact⟨A,0,M,e⟩
 refine wp_append_lies _ s x _ Z 0 41 O _ 18 240 Tryz.underlying22 hi D B p rfl (by decide) S L.length (N_ cs L.length) hS (f.alloc _) ⟨wr.heap.size,0,none⟩ 1 1 c.toList N (by rw[Array.length_toList,k]) (World.news_of_block (heap_alloc_new wr _)) v (by omega) (by unfold maxLen;omega) (by omega) (Nat.zero_le _) (wr.heap.size+1) (by simp) λg i w' h1 h2 J W=>?_;have y:=a5_ h2;have r:S.ownBlock=some g\/wr.heap.size<=g:=J.imp id (λe=>by rw[e];omega);have z:=B_.snoc (x:=t) (c:=c) (G:=λ_=>False) TrS.good ⟨cs,f,X,C,hr⟩ (l _ _) k (λb hb=>hb.elim) V (λb hb=>hb.elim) (λa0 U=>by rw[s0_ U f];exact h1) y r;exact h g i w' (z.mono TrS.good λb hb=>by rcases hb with hb | hb | hb;exact .inl hb;exact hb.elim;exact .inr hb) y r W
theorem Ft_ (p v y z t u o n x r i l k h f g b e:Value) (w:World):(Instr.buildSlice 22 1 #[(0,.agg #[p,v,y,z,t,u,o,n,x,r,i,l,k,h,f,g,b,e])]).run Tryz.prog w = .ok (.slice (some ⟨w.heap.size,0,none⟩) 1 1) (w.alloc (.cells #[p,v,y,z,t,u,o,n,x,r,i,l,k,h,f,g,b,e] 41)):=by kernel_rfl
theorem ng_ (c:Array Value) (b:c.size=18) (w:World):(Instr.buildSlice 22 1 #[(0,.agg c)]).run Tryz.prog w = .ok (.slice (some ⟨w.heap.size,0,none⟩) 1 1) (w.alloc (.cells c 41)):=by
 obtain⟨l⟩:=c;match l,b with
 | [x0,x1,x2,x3,x4,x5,x6,x7,x8,x9,x10,x11,x12,x13,x14,x15,x16,x17],_=>exact Ft_ x0 x1 x2 x3 x4 x5 x6 x7 x8 x9 x10 x11 x12 x13 x14 x15 x16 x17 w
end
section
open Go
def WkA (K:List d_) (w:Way) (m d:Nat) (c:fd_) (wt:d_) (G:List d_):Prop:=DnA K w m d c/\(∀t,K[m]?=some t->∀e,e<d->wt.get e=t.get (w.get e))/\G=K.take m
def WkB (K:List d_) (w:Way) (m d:Nat) (c:fd_) (wt:d_) (G:List d_):Prop:=UpA K w m d c/\(∀t,K[m]?=some t->∀e,e<d+1->wt.get e=t.get (w.get e))/\G=K.take (m+1)
section
variable {T K:List d_} {w:Way} {m d:Nat} {c:fd_} {wt:d_} {G:List d_}
theorem WkA.start (b:0<K.length) (wt:d_):WkA K w 0 0 ⟨[],false⟩ wt []:=⟨Fs_ b,λ_ _ e f=>absurd f (by omega),rfl⟩
theorem WkA.len (h:WkA K w m d c wt G):c.way.length=d/\d<3/\m<K.length:=by obtain⟨⟨t,ht,b,rfl,_⟩,_,_⟩:=h;exact⟨xs_ t (by omega),b,(List.getElem?_eq_some_iff.1 ht).1⟩
theorem WkB.len (h:WkB K w m d c wt G):c.way.length=d+1/\d<3/\m<K.length:=by obtain⟨⟨t,ht,b,rfl,_⟩,_,_⟩:=h;exact⟨xs_ t (by omega),b,(List.getElem?_eq_some_iff.1 ht).1⟩
def L6_ (m d:Nat):Nat:=8*m+d
def L7_ (m d:Nat):Nat:=8*m+5-d
end
end
section
open Go Go.RowKit Go.Maps
def OpR:bj_ (Int×h_):=λw F o c=>∃s,c=#[.int .i64 o.1]++c_ o.2 s/\VRd w F o.2 (.agg (c_ o.2 s))
theorem OpR.good:OpR.Good:=⟨fun⟨s,e,h⟩ hk=>⟨s,e,h.keep hk⟩,fun⟨s,e,h⟩ hF=>⟨s,e,h.mono hF⟩⟩
theorem OpR.cells {w:World} {F:Nat->Prop} {L:List (Int×h_)} {A:Option Addr} {n:Nat} (h:SRd 7 OpR w F L A n) {k:Nat} {o:Int×h_} (g:L[k]?=some o) :
    ∃ad s,A=some ad/\F ad.block/\w.cell? (ad.add (k*7))=some (.int .i64 o.1)/\(∀j,j<(c_ o.2 s).size->w.cell? (((ad.add (k*7)).add 1).add j)=(c_ o.2 s)[j]?)/\VRd w F o.2 (.agg (c_ o.2 s)):=by
 obtain⟨ad,c,e,i,p,b,s,rfl,l⟩:=h.at_ g;refine⟨ad,s,e,i,?_,λj f=>?_,l⟩
 ·have:=b 0 (by omega);rw[Nat.add_zero]at this;rw[this];rfl
 ·have f:j<6:=f;have:=b (1+j) (by omega);rw[add_of_add,add_of_add,this,Array.getElem?_append_right (by show 1<=1+j;omega)];congr 1
  show 1+j-1=j;omega
structure Two (F:Nat->Prop) (w0:World) (q1 q2 j:Nat) (T:List d_) (c d:fd_) (wx:World):Prop where
 b:Below w0.heap.size w0 wx
 c1:hp_ F wx q1 j T c
 c2:hp_ F wx q2 j T d
 ne:q1≠q2
 l1:w0.heap.size<=q1
 l2:w0.heap.size<=q2
section
variable {F:Nat->Prop} {w0 w w':World} {q1 q2 j:Nat} {T:List d_} {c d:fd_}
theorem hp_.turn {q:Nat} (h:hp_ F w q j T c) {S:Nat->Prop} (ht:Turn S w w') (h1:∀b,F b->¬S b) (h2:¬S q):hp_ F w' q j T c:=by obtain⟨f,ix,cs,S,s,at_,en,g,e⟩:=h;exact⟨f,ix,cs,S,s,at_,en,g.turn ht h1 h2,e⟩
theorem hp_.lt {q:Nat} (h:hp_ F w q j T c):q<w.heap.size:=by obtain⟨f,ix,cs,S,s,at_,en,b,e⟩:=h;exact b_ b.cur
theorem Two.on (h:Two F w0 q1 q2 j T c d w) (hb:Below w.heap.size w w'):Two F w0 q1 q2 j T c d w':=
 ⟨h.b.trans (hb.mono h.b.size),h.c1.on hb,h.c2.on hb,h.ne,h.l1,h.l2⟩
end
theorem I6_ (w:World) (F:Nat->Prop) {v:h_} (h:v.list=[]) (A:Option Addr) (b:Nat):VRd w F v (.agg (c_ v (.slice A 0 b))):=by have:=VRd.mk (w:=w) (F:=F) v A b ⟨0,0,none⟩ (λ_=>#[]) (by rw[h];exact Nat.zero_le _) (by rw[h];intro h;cases h) (by rw[h];intro i h;cases h) (by rw[h];intro i x h;simp at h);rw[h]at this;exact this
theorem lq_ (a b:h_) (p:ab_ a.list<=999999999) (F G:Nat->Prop) (e f:Value) (w:World) (i:∀g,F g->g<w.heap.size) (k:∀g,G g->g<w.heap.size) (h1:VRd w F a e) (h2:VRd w G b f) :
    Calls Tryz.prog 22 #[e,f] w (u_ (bh_ a b) w):=by
 obtain⟨A,ca,rfl,_,la⟩:=h1.inv;obtain⟨B,cb,rfl,_,lb⟩:=h2.inv;exact qq_ a b A B ca cb w i k la lb (λw' l n o h=>Hl_ (ab_ a.list+1) a.list b.list (by omega) F G A B _ _ ca cb w' (by omega) o h l n)
structure Bs_ (v:h_):Prop where
 list:v.list=[]
 fit:ag_ v
 k5:v.kind≠5
section
variable {P:Program} {ops:Array Oper} {rest:List Oper} {op:Oper} {a:Act} {w:World} {Q:Exit->Act->World->Prop}
theorem M_ (b:Region.wanted op (yielded ops a.tmps)=true) (ty:TypeId) (x:Operand) (i:op.op = .load ty x) {p:Addr} (g:a.eval x = .pointer (some p)) (c:Array Value) (d:TypeDesc) (f:∀j,j<c.size->w.cell? (p.add j)=c[j]?)
    (l:P.underlying ty=some d) (e:d.isRow=true) (hi:(P.info? ty).map (·.size)=some c.size) (h:wpList P ops Q rest (a.put op.dst (.agg c)) w):wpList P ops Q (op::rest) a w:=
 wpList_step λK k=>by
  rw[if_pos b];unfold Oper.wp execOp;simp only[i,g,Instr.loadAt,Instr.sureAddr,Sem.run_bind,Sem.run_pure,Result.andThen_ok,bu_ w p ty c d f l e hi];exact k _ _ h
end
theorem Fu_ {w:World} {g:Nat} {c:Array Value} {T:TypeId} {b:Nat×Nat} (h:w.heap[g]?=some (.cells c T b)) (j:Nat) (_:j<c.size):w.cell? ((⟨g,0,none⟩:Addr).add j)=c[j]?:=by rw[Addr.add_mid,Nat.zero_add];exact cell_of_row w g j c T b h
theorem a3_ (a:Addr) (j:Nat):(a.add j).block=a.block:=by unfold Addr.add;split<;>rfl
end
end Go.Proofs.YtefhfadjajcmkaaGreatDoor
