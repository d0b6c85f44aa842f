/- A cursor's ways: Up, Depth, Next, Key: printed by gen_XO.py. -/
import Derived.Test.YtefhfadjajcmkaaGreatDoorKG
import Derived.Test.YtefhfadjajcmkaaGreatDoorSN
import Derived.Shelf.Slices.In.SortNone
import Derived.Test.YtefhfadjajcmkaaGreatDoorKF
set_option linter.unusedVariables false
set_option linter.unusedSimpArgs false
namespace Go.Proofs.YtefhfadjajcmkaaGreatDoor
open Go Go.RowKit Go.Maps
open Go.Lib (hid cell_of_heap)
def okK (P t:Trip) (i k:Nat):Prop:=(P.get k).kind=0→(P.get i).text≠⟨#[]⟩→(P.get k).text=(P.get i).text→t.get i=t.get k
def okI (P t:Trip) (i:Nat):Prop:=((P.get i).kind≠0→t.get i=P.get i)∧((P.get i).kind=0→∀k,k<i→okK P t i k)
theorem fitsT_ok {P t:Trip}:fitsT P t=true↔∀i,i<3→okI P t i:=by
 rw[fitsT_iff]
 constructor
 ·exact λh i hi=>⟨(h i hi).1,λh0 k hk=>(h i hi).2 h0 k hk⟩
 ·exact λh i hi=>⟨(h i hi).1,λh0 k hk=>(h i hi).2 h0 k hk⟩
theorem fitsT_not {P t:Trip} {i:Nat} (hi:i<3) (h:¬okI P t i):fitsT P t=false:=by
 cases e:fitsT P t with
 | false=>rfl
 | true=>exact absurd (fitsT_ok.1 e i hi) h
theorem sameB_true {a b:Val} (h:sameB a b=true):a=b:=by
 unfold sameB at h
 simpa using h
theorem sameB_false {a b:Val} (h:sameB a b=false):a≠b:=by
 unfold sameB at h
 simpa using h
set_option maxRecDepth 100000 in
set_option maxHeartbeats 8000000 in
theorem fits_any (t P:Trip) (ts ps:Nat→Value) (w:World) (hl:∀e,e<3→(t.get e).list=[]) (ht:∀e,e<3→∃A cap,ts e = .slice A 0 cap) (hp:∀e,e<3→∃B cap,ps e = .slice B (P.get e).list.length cap) :
    Calls Tryz.prog 61 #[.agg (cellsT t ts),.agg (cellsT P ps)] w (ToldB (fitsT P t) w):=by
 have HSM:=hid (λ(W:World) (e:Nat) (he:e<3)=>(show Calls Tryz.prog 123 #[.agg (cellsV (t.get e) (ts e)),.agg (cellsV (P.get e) (ps e))] W (ToldB (sameB (t.get e) (P.get e)) W) from by
  obtain⟨A,ca,e1⟩:=ht e he
  obtain⟨B,cb,e2⟩:=hp e he
  rw[e1,e2]
  exact sameP_any _ _ (hl e he) A B ca cb W))
 have HST:=hid (λ(W:World) (e:Nat) (he:e<3) (d:Nat) (hd:d<3)=>(show Calls Tryz.prog 123 #[.agg (cellsV (t.get e) (ts e)),.agg (cellsV (t.get d) (ts d))] W (ToldB (sameB (t.get e) (t.get d)) W) from by
  obtain⟨A,ca,e1⟩:=ht e he
  obtain⟨B,cb,e2⟩:=ht d hd
  have:=sameP_any (t.get e) (t.get d) (hl e he) A B ca cb W
  rw[hl d hd]at this
  rw[e1,e2]
  exact this))
 clear hl ht hp
 unfold ToldB at HSM HST ⊢
 have HNO:=hid (λ(i:Nat) (hi:i<3) (h:¬okI P t i) (W:World) (hb:Below w.heap.size w W)=>(show Ending.returned (Value.bool false) = .returned (.bool (fitsT P t))∧Below w.heap.size w W from ⟨congrArg (λb=>Ending.returned (Value.bool b)) (fitsT_not hi h).symm,hb⟩))
 have HYES:=hid (λ(h:∀i,i<3→okI P t i) (W:World) (hb:Below w.heap.size w W)=>(show Ending.returned (Value.bool true) = .returned (.bool (fitsT P t))∧Below w.heap.size w W from ⟨congrArg (λb=>Ending.returned (Value.bool b)) (fitsT_ok.2 h).symm,hb⟩))
 obtain⟨c1,Hc1⟩:=name18 t ts
 obtain⟨c2,Hc2⟩:=name18 P ps
 rw[Hc1.out,Hc2.out]
 obtain⟨z,Hz⟩:=name_itV w.heap.size
 obtain⟨w1,HW1⟩:=name_itV ((w.alloc (.cells c1 99)).alloc (.cells c2 99))
 have HM1:=hid (show AlM w z c1 c2 w1 from by
  rw[←HW1.out,←Hz.out]
  exact⟨two_new w _ _,heap_alloc2_old w _ _,heap_alloc2_new w _ _⟩)
 have HKD:=hid (λ(W:World) (hv:AlM w z c1 c2 W) (e:Nat) (he:e<3)=>(show W.cell? ⟨z+1,e*6,none⟩=some (.int .i64 (P.get e).kind) from by
  have:=part_at (P:=P) (ps:=ps) (by rw[Hc2.out];exact hv.h2) he 0 (.int .i64 (P.get e).kind) rfl
  rwa [Nat.add_zero]at this))
 have HTX:=hid (λ(W:World) (hv:AlM w z c1 c2 W) (e:Nat) (he:e<3)=>(show W.cell? ⟨z+1,e*6+3,none⟩=some (.string (P.get e).text) from part_at (P:=P) (ps:=ps) (by rw[Hc2.out];exact hv.h2) he 3 (.string (P.get e).text) rfl))
 go_enter Tryz.func61,Tryz.ntmps61
 go_upto_region 2 with fail
 rw[HW1.out,Hz.out]
 clear HW1
 go_loopw [7] (λs wx=>∃i:Nat,i≤3∧s = .int .i64 (i:Nat)∧Hid (AlM w z c1 c2 wx)∧Hid (∀e,e<i→okI P t e)) (λs _=>3-(intOf s).toNat)
 case atStart=>exact⟨0,by omega,rfl,HM1,hid (λe he=>absurd he (by omega))⟩
 case round=>
  obtain⟨i,hi,rfl,HM,HOK⟩:=hrel
  by_cases h3:i=3
  ·subst h3
   have HE:=hid (HYES.out HOK.out wr HM.out.hb)
   clear hi
   go_wp2_with fail
   go_ret
   exact HE.out
  ·have HLT:=hid (show i<3 from by omega)
   have e1:(i:Int)<3:=by omega
   have HI3:=hid (λW=>idx_parts (z+1) i HLT.out W)
   have HI2:=hid (λW=>idx_parts z i HLT.out W)
   have HK0:=hid (λW hv=>HKD.out W hv i HLT.out)
   have HX0:=hid (λW hv=>HTX.out W hv i HLT.out)
   have HLA:=hid (λ(W:World) (hv:AlM w z c1 c2 W)=>ld_part (part_range hv.h1 Hc1 HLT.out) 39 _ Tryz.underlying39 rfl (by kernel_rfl))
   have HLB:=hid (λ(W:World) (hv:AlM w z c1 c2 W)=>ld_part (part_range hv.h2 Hc2 HLT.out) 39 _ Tryz.underlying39 rfl (by kernel_rfl))
   have HS1:=hid (λW=>HSM.out W i HLT.out)
   obtain⟨iq,Hiq⟩:=name_itV (i*6)
   obtain⟨kd,Hkd⟩:=name_itV (P.get i).kind
   obtain⟨xi,Hxi⟩:=name_itV (P.get i).text
   obtain⟨u,Hu⟩:=name_itV (cellsV (t.get i) (ts i))
   obtain⟨u2,Hu2⟩:=name_itV (cellsV (P.get i) (ps i))
   rw[Hiq.out]at HI2 HI3 HK0 HX0 HLA HLB
   rw[Hkd.out]at HK0
   rw[Hxi.out]at HX0
   rw[Hu.out]at HLA HS1
   rw[Hu2.out]at HLB HS1
   have q4:=HK0.out wr HM.out
   by_cases hk0:kd=0
   ·subst hk0
    have HKZ:=hid Hkd.out
    clear hi h3
    go_upto_region 8 with ((with_reducible refine at_dst (some 11) ?_);refine val_arm rfl (.pointer (some ⟨z+1,iq,none⟩)) (val_of (HI3.out _)) ?_)
    clear q4 e1
    go_loopw [24] (λs wx=>∃k:Nat,k≤i∧s = .int .i64 (k:Nat)∧Hid (AlM w z c1 c2 wx)∧Hid (∀e,e<k→okK P t i e)) (λs _=>i-(intOf s).toNat)
    case atStart=>exact⟨0,by omega,rfl,HM,hid (λe he=>absurd he (by omega))⟩
    case round=>
     clear HM
     obtain⟨k,hk,rfl,HM,HOKK⟩:=hrel
     by_cases hki:k=i
     ·subst hki
      have HN:=hid (show ∀e,e<k+1→okI P t e from λe he=>by
       by_cases h:e=k
       ·subst h
        exact⟨λh0=>absurd HKZ.out h0,λ_=>HOKK.out⟩
       ·exact HOK.out e (by omega))
      clear hk
      have h9:=HLT.out
      go_wp2_with fail
      go_roundw
      case rel=>exact⟨k+1,by have:=HLT.out;omega,by first | rfl | go_num,HM,HN⟩
      case measure=>have:=HLT.out;simp[intOf];omega
     ·have HKI:=hid (show k<i from by omega)
      have e1:(k:Int)<i:=by omega
      have HK3:=hid (show k<3 from by have:=HLT.out;omega)
      have HJ3:=hid (λW=>idx_parts (z+1) k HK3.out W)
      have HJ2:=hid (λW=>idx_parts z k HK3.out W)
      have HK1:=hid (λW hv=>HKD.out W hv k HK3.out)
      have HX1:=hid (λW hv=>HTX.out W hv k HK3.out)
      have HLK:=hid (λ(W:World) (hv:AlM w z c1 c2 W)=>ld_part (part_range hv.h1 Hc1 HK3.out) 39 _ Tryz.underlying39 rfl (by kernel_rfl))
      have HS2:=hid (λW=>HST.out W i HLT.out k HK3.out)
      obtain⟨kq,Hkq⟩:=name_itV (k*6)
      obtain⟨kk,Hkk⟩:=name_itV (P.get k).kind
      obtain⟨xk,Hxk⟩:=name_itV (P.get k).text
      obtain⟨uk,Huk⟩:=name_itV (cellsV (t.get k) (ts k))
      rw[Hkq.out]at HJ2 HJ3 HK1 HX1 HLK
      rw[Hkk.out]at HK1
      rw[Hxk.out]at HX1
      rw[Huk.out]at HLK HS2
      rw[Hu.out]at HS2
      obtain⟨b1,B1⟩:=name_itV (!xi.toList.isEmpty)
      obtain⟨b2,B2⟩:=name_itV (kk==0)
      obtain⟨b3,B3⟩:=name_itV (xk.toList==xi.toList)
      obtain⟨b4,B4⟩:=name_itV (sameB (t.get i) (t.get k))
      rw[B4.out]at HS2
      have HNX:=hid (λh:okK P t i k=>(show ∀e,e<k+1→okK P t i e from λe he=>by
       by_cases h2:e=k
       ·subst h2;exact h
       ·exact HOKK.out e (by omega)))
      have HBAD:=hid (λ(h:¬okK P t i k)=>(show ¬okI P t i from λh2=>h (h2.2 HKZ.out k HKI.out)))
      clear hk hki
      go_upto_region 10 with fail
      clear e1
      refine wp_region_held_drew (S:=λW'=>AlM w z c1 c2 W') (by kernel_rfl) HM.out.drew (λhH=>?_)
      refine Boxed.out ?_
      cases b1 with
      | false=>
       refine tkV 0 27 (.int .i64 (i:Nat)) hH (λhH=>?_)
       try simp only[Act.put,aT,aZ,aS]
       refine tkW 1 28 (.pointer (some ⟨z+1,iq,none⟩)) hH (λw hSw=>?_) (λhH=>?_)
       ·exact val_of (HI3.out w)
       try simp only[Act.put,aT,aZ,aS]
       refine tkV 2 29 (.pointer (some ⟨z+1,iq+3,none⟩)) hH (λhH=>?_)
       try simp only[Act.put,aT,aZ,aS]
       refine tkW 3 30 (.string xi) hH (λw hSw=>?_) (λhH=>?_)
       ·have p9:=HX0.out w hSw
        unfold runsTo
        go_simp
       try simp only[Act.put,aT,aZ,aS]
       refine tkW 4 31 (.bool false) hH (λw hSw=>?_) (λhH=>?_)
       ·have p9:=B1.out
        unfold runsTo
        go_simp
       try simp only[Act.put,aT,aZ,aS]
       refine tkV 5 32 (.bool false) hH (λhH=>?_)
       try simp only[Act.put,aT,aZ,aS]
       refine take_skip 6 33 (by kernel_rfl) (by rfl) (by kernel_rfl) (by kernel_rfl) (by kernel_rfl) (λ_ _ _ h=>h) hH (λhH=>?_)
       try simp only[Act.put,aT,aZ,aS]
       refine take_skip 7 34 (by kernel_rfl) (by rfl) (by kernel_rfl) (by kernel_rfl) (by kernel_rfl) (λ_ _ _ h=>h) hH (λhH=>?_)
       try simp only[Act.put,aT,aZ,aS]
       refine take_skip 8 35 (by kernel_rfl) (by rfl) (by kernel_rfl) (by kernel_rfl) (by kernel_rfl) (λ_ _ _ h=>h) hH (λhH=>?_)
       try simp only[Act.put,aT,aZ,aS]
       refine take_skip 9 36 (by kernel_rfl) (by rfl) (by kernel_rfl) (by kernel_rfl) (by kernel_rfl) (λ_ _ _ h=>h) hH (λhH=>?_)
       try simp only[Act.put,aT,aZ,aS]
       refine take_skip 10 37 (by kernel_rfl) (by rfl) (by kernel_rfl) (by kernel_rfl) (by kernel_rfl) (λ_ _ _ h=>h) hH (λhH=>?_)
       try simp only[Act.put,aT,aZ,aS]
       refine tkV 11 38 (.bool false) hH (λhH=>?_)
       try simp only[Act.put,aT,aZ,aS]
       refine tkV 12 39 (.bool false) hH (λhH=>?_)
       try simp only[Act.put,aT,aZ,aS]
       refine take_skip 13 40 (by kernel_rfl) (by rfl) (by kernel_rfl) (by kernel_rfl) (by kernel_rfl) (λ_ _ _ h=>h) hH (λhH=>?_)
       try simp only[Act.put,aT,aZ,aS]
       refine take_skip 14 41 (by kernel_rfl) (by rfl) (by kernel_rfl) (by kernel_rfl) (by kernel_rfl) (λ_ _ _ h=>h) hH (λhH=>?_)
       try simp only[Act.put,aT,aZ,aS]
       refine take_skip 15 42 (by kernel_rfl) (by rfl) (by kernel_rfl) (by kernel_rfl) (by kernel_rfl) (λ_ _ _ h=>h) hH (λhH=>?_)
       try simp only[Act.put,aT,aZ,aS]
       refine take_skip 16 43 (by kernel_rfl) (by rfl) (by kernel_rfl) (by kernel_rfl) (by kernel_rfl) (λ_ _ _ h=>h) hH (λhH=>?_)
       try simp only[Act.put,aT,aZ,aS]
       refine take_skip 17 44 (by kernel_rfl) (by rfl) (by kernel_rfl) (by kernel_rfl) (by kernel_rfl) (λ_ _ _ h=>h) hH (λhH=>?_)
       try simp only[Act.put,aT,aZ,aS]
       refine take_skip 18 45 (by kernel_rfl) (by rfl) (by kernel_rfl) (by kernel_rfl) (by kernel_rfl) (λ_ _ _ h=>h) hH (λhH=>?_)
       try simp only[Act.put,aT,aZ,aS]
       refine take_skip 19 46 (by kernel_rfl) (by rfl) (by kernel_rfl) (by kernel_rfl) (by kernel_rfl) (λ_ _ _ h=>h) hH (λhH=>?_)
       try simp only[Act.put,aT,aZ,aS]
       refine take_skip 20 47 (by kernel_rfl) (by rfl) (by kernel_rfl) (by kernel_rfl) (by kernel_rfl) (λ_ _ _ h=>h) hH (λhH=>?_)
       try simp only[Act.put,aT,aZ,aS]
       refine take_skip 21 48 (by kernel_rfl) (by rfl) (by kernel_rfl) (by kernel_rfl) (by kernel_rfl) (λ_ _ _ h=>h) hH (λhH=>?_)
       try simp only[Act.put,aT,aZ,aS]
       refine tkV 22 49 (.bool false) hH (λhH=>?_)
       try simp only[Act.put,aT,aZ,aS]
       refine tkV 23 50 (.bool false) hH (λhH=>?_)
       try simp only[Act.put,aT,aZ,aS]
       refine take_skip 24 51 (by kernel_rfl) (by rfl) (by kernel_rfl) (by kernel_rfl) (by kernel_rfl) (λ_ _ _ h=>h) hH (λhH=>?_)
       try simp only[Act.put,aT,aZ,aS]
       refine take_skip 25 52 (by kernel_rfl) (by rfl) (by kernel_rfl) (by kernel_rfl) (by kernel_rfl) (λ_ _ _ h=>h) hH (λhH=>?_)
       try simp only[Act.put,aT,aZ,aS]
       refine take_skip 26 53 (by kernel_rfl) (by rfl) (by kernel_rfl) (by kernel_rfl) (by kernel_rfl) (λ_ _ _ h=>h) hH (λhH=>?_)
       try simp only[Act.put,aT,aZ,aS]
       refine take_skip 27 54 (by kernel_rfl) (by rfl) (by kernel_rfl) (by kernel_rfl) (by kernel_rfl) (λ_ _ _ h=>h) hH (λhH=>?_)
       try simp only[Act.put,aT,aZ,aS]
       refine take_skip 28 55 (by kernel_rfl) (by rfl) (by kernel_rfl) (by kernel_rfl) (by kernel_rfl) (λ_ _ _ h=>h) hH (λhH=>?_)
       try simp only[Act.put,aT,aZ,aS]
       refine take_skip 29 56 (by kernel_rfl) (by rfl) (by kernel_rfl) (by kernel_rfl) (by kernel_rfl) (λ_ _ _ h=>h) hH (λhH=>?_)
       try simp only[Act.put,aT,aZ,aS]
       refine take_skip 30 57 (by kernel_rfl) (by rfl) (by kernel_rfl) (by kernel_rfl) (by kernel_rfl) (λ_ _ _ h=>h) hH (λhH=>?_)
       try simp only[Act.put,aT,aZ,aS]
       refine take_skip 31 58 (by kernel_rfl) (by rfl) (by kernel_rfl) (by kernel_rfl) (by kernel_rfl) (λ_ _ _ h=>h) hH (λhH=>?_)
       try simp only[Act.put,aT,aZ,aS]
       refine tkV 32 59 (.bool false) hH (λhH=>?_)
       try simp only[Act.put,aT,aZ,aS]
       refine⟨wpAnyH_done (by kernel_rfl) ?_ _⟩
       clear hH
       have h9:=HK3.out
       have HOX:=hid (HNX.out (by
        intro _ h _
        exfalso
        have h2:=B1.out
        rw[Hxi.out]at h
        simp only[Bool.not_eq_false',List.isEmpty_iff]at h2
        exact h (bytes_eq (by rw[←ByteArray.toList_eq,h2]))))
       go_wp2_with fail
       go_roundw
       case rel=>exact⟨k+1,by have:=HKI.out;omega,by first | rfl | go_num,hid HM.out.drew,HOX⟩
       case measure=>have:=HKI.out;simp[intOf];omega
      | true=>
       cases b2 with
       | false=>
        refine tkV 0 27 (.int .i64 (i:Nat)) hH (λhH=>?_)
        try simp only[Act.put,aT,aZ,aS]
        refine tkW 1 28 (.pointer (some ⟨z+1,iq,none⟩)) hH (λw hSw=>?_) (λhH=>?_)
        ·exact val_of (HI3.out w)
        try simp only[Act.put,aT,aZ,aS]
        refine tkV 2 29 (.pointer (some ⟨z+1,iq+3,none⟩)) hH (λhH=>?_)
        try simp only[Act.put,aT,aZ,aS]
        refine tkW 3 30 (.string xi) hH (λw hSw=>?_) (λhH=>?_)
        ·have p9:=HX0.out w hSw
         unfold runsTo
         go_simp
        try simp only[Act.put,aT,aZ,aS]
        refine tkW 4 31 (.bool true) hH (λw hSw=>?_) (λhH=>?_)
        ·have p9:=B1.out
         unfold runsTo
         go_simp
        try simp only[Act.put,aT,aZ,aS]
        refine tkV 5 32 (.bool true) hH (λhH=>?_)
        try simp only[Act.put,aT,aZ,aS]
        refine tkV 6 33 (.int .i64 (k:Nat)) hH (λhH=>?_)
        try simp only[Act.put,aT,aZ,aS]
        refine tkW 7 34 (.pointer (some ⟨z+1,kq,none⟩)) hH (λw hSw=>?_) (λhH=>?_)
        ·exact val_of (HJ3.out w)
        try simp only[Act.put,aT,aZ,aS]
        refine tkV 8 35 (.pointer (some ⟨z+1,kq,none⟩)) hH (λhH=>?_)
        try simp only[Act.put,aT,aZ,aS]
        refine tkW 9 36 (.int .i64 kk) hH (λw hSw=>?_) (λhH=>?_)
        ·have p9:=HK1.out w hSw
         unfold runsTo
         go_simp
        try simp only[Act.put,aT,aZ,aS]
        refine tkW 10 37 (.bool false) hH (λw hSw=>?_) (λhH=>?_)
        ·have p9:=B2.out
         unfold runsTo
         go_simp
        try simp only[Act.put,aT,aZ,aS]
        refine tkV 11 38 (.bool false) hH (λhH=>?_)
        try simp only[Act.put,aT,aZ,aS]
        refine tkV 12 39 (.bool false) hH (λhH=>?_)
        try simp only[Act.put,aT,aZ,aS]
        refine take_skip 13 40 (by kernel_rfl) (by rfl) (by kernel_rfl) (by kernel_rfl) (by kernel_rfl) (λ_ _ _ h=>h) hH (λhH=>?_)
        try simp only[Act.put,aT,aZ,aS]
        refine take_skip 14 41 (by kernel_rfl) (by rfl) (by kernel_rfl) (by kernel_rfl) (by kernel_rfl) (λ_ _ _ h=>h) hH (λhH=>?_)
        try simp only[Act.put,aT,aZ,aS]
        refine take_skip 15 42 (by kernel_rfl) (by rfl) (by kernel_rfl) (by kernel_rfl) (by kernel_rfl) (λ_ _ _ h=>h) hH (λhH=>?_)
        try simp only[Act.put,aT,aZ,aS]
        refine take_skip 16 43 (by kernel_rfl) (by rfl) (by kernel_rfl) (by kernel_rfl) (by kernel_rfl) (λ_ _ _ h=>h) hH (λhH=>?_)
        try simp only[Act.put,aT,aZ,aS]
        refine take_skip 17 44 (by kernel_rfl) (by rfl) (by kernel_rfl) (by kernel_rfl) (by kernel_rfl) (λ_ _ _ h=>h) hH (λhH=>?_)
        try simp only[Act.put,aT,aZ,aS]
        refine take_skip 18 45 (by kernel_rfl) (by rfl) (by kernel_rfl) (by kernel_rfl) (by kernel_rfl) (λ_ _ _ h=>h) hH (λhH=>?_)
        try simp only[Act.put,aT,aZ,aS]
        refine take_skip 19 46 (by kernel_rfl) (by rfl) (by kernel_rfl) (by kernel_rfl) (by kernel_rfl) (λ_ _ _ h=>h) hH (λhH=>?_)
        try simp only[Act.put,aT,aZ,aS]
        refine take_skip 20 47 (by kernel_rfl) (by rfl) (by kernel_rfl) (by kernel_rfl) (by kernel_rfl) (λ_ _ _ h=>h) hH (λhH=>?_)
        try simp only[Act.put,aT,aZ,aS]
        refine take_skip 21 48 (by kernel_rfl) (by rfl) (by kernel_rfl) (by kernel_rfl) (by kernel_rfl) (λ_ _ _ h=>h) hH (λhH=>?_)
        try simp only[Act.put,aT,aZ,aS]
        refine tkV 22 49 (.bool false) hH (λhH=>?_)
        try simp only[Act.put,aT,aZ,aS]
        refine tkV 23 50 (.bool false) hH (λhH=>?_)
        try simp only[Act.put,aT,aZ,aS]
        refine take_skip 24 51 (by kernel_rfl) (by rfl) (by kernel_rfl) (by kernel_rfl) (by kernel_rfl) (λ_ _ _ h=>h) hH (λhH=>?_)
        try simp only[Act.put,aT,aZ,aS]
        refine take_skip 25 52 (by kernel_rfl) (by rfl) (by kernel_rfl) (by kernel_rfl) (by kernel_rfl) (λ_ _ _ h=>h) hH (λhH=>?_)
        try simp only[Act.put,aT,aZ,aS]
        refine take_skip 26 53 (by kernel_rfl) (by rfl) (by kernel_rfl) (by kernel_rfl) (by kernel_rfl) (λ_ _ _ h=>h) hH (λhH=>?_)
        try simp only[Act.put,aT,aZ,aS]
        refine take_skip 27 54 (by kernel_rfl) (by rfl) (by kernel_rfl) (by kernel_rfl) (by kernel_rfl) (λ_ _ _ h=>h) hH (λhH=>?_)
        try simp only[Act.put,aT,aZ,aS]
        refine take_skip 28 55 (by kernel_rfl) (by rfl) (by kernel_rfl) (by kernel_rfl) (by kernel_rfl) (λ_ _ _ h=>h) hH (λhH=>?_)
        try simp only[Act.put,aT,aZ,aS]
        refine take_skip 29 56 (by kernel_rfl) (by rfl) (by kernel_rfl) (by kernel_rfl) (by kernel_rfl) (λ_ _ _ h=>h) hH (λhH=>?_)
        try simp only[Act.put,aT,aZ,aS]
        refine take_skip 30 57 (by kernel_rfl) (by rfl) (by kernel_rfl) (by kernel_rfl) (by kernel_rfl) (λ_ _ _ h=>h) hH (λhH=>?_)
        try simp only[Act.put,aT,aZ,aS]
        refine take_skip 31 58 (by kernel_rfl) (by rfl) (by kernel_rfl) (by kernel_rfl) (by kernel_rfl) (λ_ _ _ h=>h) hH (λhH=>?_)
        try simp only[Act.put,aT,aZ,aS]
        refine tkV 32 59 (.bool false) hH (λhH=>?_)
        try simp only[Act.put,aT,aZ,aS]
        refine⟨wpAnyH_done (by kernel_rfl) ?_ _⟩
        clear hH
        have h9:=HK3.out
        have HOX:=hid (HNX.out (by
         intro h _ _
         exfalso
         have h2:=B2.out
         rw[Hkk.out]at h
         rw[h]at h2
         cases h2))
        go_wp2_with fail
        go_roundw
        case rel=>exact⟨k+1,by have:=HKI.out;omega,by first | rfl | go_num,hid HM.out.drew,HOX⟩
        case measure=>have:=HKI.out;simp[intOf];omega
       | true=>
        cases b3 with
        | false=>
         refine tkV 0 27 (.int .i64 (i:Nat)) hH (λhH=>?_)
         try simp only[Act.put,aT,aZ,aS]
         refine tkW 1 28 (.pointer (some ⟨z+1,iq,none⟩)) hH (λw hSw=>?_) (λhH=>?_)
         ·exact val_of (HI3.out w)
         try simp only[Act.put,aT,aZ,aS]
         refine tkV 2 29 (.pointer (some ⟨z+1,iq+3,none⟩)) hH (λhH=>?_)
         try simp only[Act.put,aT,aZ,aS]
         refine tkW 3 30 (.string xi) hH (λw hSw=>?_) (λhH=>?_)
         ·have p9:=HX0.out w hSw
          unfold runsTo
          go_simp
         try simp only[Act.put,aT,aZ,aS]
         refine tkW 4 31 (.bool true) hH (λw hSw=>?_) (λhH=>?_)
         ·have p9:=B1.out
          unfold runsTo
          go_simp
         try simp only[Act.put,aT,aZ,aS]
         refine tkV 5 32 (.bool true) hH (λhH=>?_)
         try simp only[Act.put,aT,aZ,aS]
         refine tkV 6 33 (.int .i64 (k:Nat)) hH (λhH=>?_)
         try simp only[Act.put,aT,aZ,aS]
         refine tkW 7 34 (.pointer (some ⟨z+1,kq,none⟩)) hH (λw hSw=>?_) (λhH=>?_)
         ·exact val_of (HJ3.out w)
         try simp only[Act.put,aT,aZ,aS]
         refine tkV 8 35 (.pointer (some ⟨z+1,kq,none⟩)) hH (λhH=>?_)
         try simp only[Act.put,aT,aZ,aS]
         refine tkW 9 36 (.int .i64 kk) hH (λw hSw=>?_) (λhH=>?_)
         ·have p9:=HK1.out w hSw
          unfold runsTo
          go_simp
         try simp only[Act.put,aT,aZ,aS]
         refine tkW 10 37 (.bool true) hH (λw hSw=>?_) (λhH=>?_)
         ·have p9:=B2.out
          unfold runsTo
          go_simp
         try simp only[Act.put,aT,aZ,aS]
         refine tkV 11 38 (.bool true) hH (λhH=>?_)
         try simp only[Act.put,aT,aZ,aS]
         refine tkV 12 39 (.bool true) hH (λhH=>?_)
         try simp only[Act.put,aT,aZ,aS]
         refine tkV 13 40 (.int .i64 (k:Nat)) hH (λhH=>?_)
         try simp only[Act.put,aT,aZ,aS]
         refine tkW 14 41 (.pointer (some ⟨z+1,kq,none⟩)) hH (λw hSw=>?_) (λhH=>?_)
         ·exact val_of (HJ3.out w)
         try simp only[Act.put,aT,aZ,aS]
         refine tkV 15 42 (.pointer (some ⟨z+1,kq+3,none⟩)) hH (λhH=>?_)
         try simp only[Act.put,aT,aZ,aS]
         refine tkW 16 43 (.string xk) hH (λw hSw=>?_) (λhH=>?_)
         ·have p9:=HX1.out w hSw
          unfold runsTo
          go_simp
         try simp only[Act.put,aT,aZ,aS]
         refine tkV 17 44 (.int .i64 (i:Nat)) hH (λhH=>?_)
         try simp only[Act.put,aT,aZ,aS]
         refine tkW 18 45 (.pointer (some ⟨z+1,iq,none⟩)) hH (λw hSw=>?_) (λhH=>?_)
         ·exact val_of (HI3.out w)
         try simp only[Act.put,aT,aZ,aS]
         refine tkV 19 46 (.pointer (some ⟨z+1,iq+3,none⟩)) hH (λhH=>?_)
         try simp only[Act.put,aT,aZ,aS]
         refine tkW 20 47 (.string xi) hH (λw hSw=>?_) (λhH=>?_)
         ·have p9:=HX0.out w hSw
          unfold runsTo
          go_simp
         try simp only[Act.put,aT,aZ,aS]
         refine tkW 21 48 (.bool false) hH (λw hSw=>?_) (λhH=>?_)
         ·have p9:=B3.out
          unfold runsTo
          go_simp
         try simp only[Act.put,aT,aZ,aS]
         refine tkV 22 49 (.bool false) hH (λhH=>?_)
         try simp only[Act.put,aT,aZ,aS]
         refine tkV 23 50 (.bool false) hH (λhH=>?_)
         try simp only[Act.put,aT,aZ,aS]
         refine take_skip 24 51 (by kernel_rfl) (by rfl) (by kernel_rfl) (by kernel_rfl) (by kernel_rfl) (λ_ _ _ h=>h) hH (λhH=>?_)
         try simp only[Act.put,aT,aZ,aS]
         refine take_skip 25 52 (by kernel_rfl) (by rfl) (by kernel_rfl) (by kernel_rfl) (by kernel_rfl) (λ_ _ _ h=>h) hH (λhH=>?_)
         try simp only[Act.put,aT,aZ,aS]
         refine take_skip 26 53 (by kernel_rfl) (by rfl) (by kernel_rfl) (by kernel_rfl) (by kernel_rfl) (λ_ _ _ h=>h) hH (λhH=>?_)
         try simp only[Act.put,aT,aZ,aS]
         refine take_skip 27 54 (by kernel_rfl) (by rfl) (by kernel_rfl) (by kernel_rfl) (by kernel_rfl) (λ_ _ _ h=>h) hH (λhH=>?_)
         try simp only[Act.put,aT,aZ,aS]
         refine take_skip 28 55 (by kernel_rfl) (by rfl) (by kernel_rfl) (by kernel_rfl) (by kernel_rfl) (λ_ _ _ h=>h) hH (λhH=>?_)
         try simp only[Act.put,aT,aZ,aS]
         refine take_skip 29 56 (by kernel_rfl) (by rfl) (by kernel_rfl) (by kernel_rfl) (by kernel_rfl) (λ_ _ _ h=>h) hH (λhH=>?_)
         try simp only[Act.put,aT,aZ,aS]
         refine take_skip 30 57 (by kernel_rfl) (by rfl) (by kernel_rfl) (by kernel_rfl) (by kernel_rfl) (λ_ _ _ h=>h) hH (λhH=>?_)
         try simp only[Act.put,aT,aZ,aS]
         refine take_skip 31 58 (by kernel_rfl) (by rfl) (by kernel_rfl) (by kernel_rfl) (by kernel_rfl) (λ_ _ _ h=>h) hH (λhH=>?_)
         try simp only[Act.put,aT,aZ,aS]
         refine tkV 32 59 (.bool false) hH (λhH=>?_)
         try simp only[Act.put,aT,aZ,aS]
         refine⟨wpAnyH_done (by kernel_rfl) ?_ _⟩
         clear hH
         have h9:=HK3.out
         have HOX:=hid (HNX.out (by
          intro _ _ h
          exfalso
          have h2:=B3.out
          rw[Hxk.out,Hxi.out]at h
          rw[h]at h2
          simp at h2))
         go_wp2_with fail
         go_roundw
         case rel=>exact⟨k+1,by have:=HKI.out;omega,by first | rfl | go_num,hid HM.out.drew,HOX⟩
         case measure=>have:=HKI.out;simp[intOf];omega
        | true=>
         refine tkV 0 27 (.int .i64 (i:Nat)) hH (λhH=>?_)
         try simp only[Act.put,aT,aZ,aS]
         refine tkW 1 28 (.pointer (some ⟨z+1,iq,none⟩)) hH (λw hSw=>?_) (λhH=>?_)
         ·exact val_of (HI3.out w)
         try simp only[Act.put,aT,aZ,aS]
         refine tkV 2 29 (.pointer (some ⟨z+1,iq+3,none⟩)) hH (λhH=>?_)
         try simp only[Act.put,aT,aZ,aS]
         refine tkW 3 30 (.string xi) hH (λw hSw=>?_) (λhH=>?_)
         ·have p9:=HX0.out w hSw
          unfold runsTo
          go_simp
         try simp only[Act.put,aT,aZ,aS]
         refine tkW 4 31 (.bool true) hH (λw hSw=>?_) (λhH=>?_)
         ·have p9:=B1.out
          unfold runsTo
          go_simp
         try simp only[Act.put,aT,aZ,aS]
         refine tkV 5 32 (.bool true) hH (λhH=>?_)
         try simp only[Act.put,aT,aZ,aS]
         refine tkV 6 33 (.int .i64 (k:Nat)) hH (λhH=>?_)
         try simp only[Act.put,aT,aZ,aS]
         refine tkW 7 34 (.pointer (some ⟨z+1,kq,none⟩)) hH (λw hSw=>?_) (λhH=>?_)
         ·exact val_of (HJ3.out w)
         try simp only[Act.put,aT,aZ,aS]
         refine tkV 8 35 (.pointer (some ⟨z+1,kq,none⟩)) hH (λhH=>?_)
         try simp only[Act.put,aT,aZ,aS]
         refine tkW 9 36 (.int .i64 kk) hH (λw hSw=>?_) (λhH=>?_)
         ·have p9:=HK1.out w hSw
          unfold runsTo
          go_simp
         try simp only[Act.put,aT,aZ,aS]
         refine tkW 10 37 (.bool true) hH (λw hSw=>?_) (λhH=>?_)
         ·have p9:=B2.out
          unfold runsTo
          go_simp
         try simp only[Act.put,aT,aZ,aS]
         refine tkV 11 38 (.bool true) hH (λhH=>?_)
         try simp only[Act.put,aT,aZ,aS]
         refine tkV 12 39 (.bool true) hH (λhH=>?_)
         try simp only[Act.put,aT,aZ,aS]
         refine tkV 13 40 (.int .i64 (k:Nat)) hH (λhH=>?_)
         try simp only[Act.put,aT,aZ,aS]
         refine tkW 14 41 (.pointer (some ⟨z+1,kq,none⟩)) hH (λw hSw=>?_) (λhH=>?_)
         ·exact val_of (HJ3.out w)
         try simp only[Act.put,aT,aZ,aS]
         refine tkV 15 42 (.pointer (some ⟨z+1,kq+3,none⟩)) hH (λhH=>?_)
         try simp only[Act.put,aT,aZ,aS]
         refine tkW 16 43 (.string xk) hH (λw hSw=>?_) (λhH=>?_)
         ·have p9:=HX1.out w hSw
          unfold runsTo
          go_simp
         try simp only[Act.put,aT,aZ,aS]
         refine tkV 17 44 (.int .i64 (i:Nat)) hH (λhH=>?_)
         try simp only[Act.put,aT,aZ,aS]
         refine tkW 18 45 (.pointer (some ⟨z+1,iq,none⟩)) hH (λw hSw=>?_) (λhH=>?_)
         ·exact val_of (HI3.out w)
         try simp only[Act.put,aT,aZ,aS]
         refine tkV 19 46 (.pointer (some ⟨z+1,iq+3,none⟩)) hH (λhH=>?_)
         try simp only[Act.put,aT,aZ,aS]
         refine tkW 20 47 (.string xi) hH (λw hSw=>?_) (λhH=>?_)
         ·have p9:=HX0.out w hSw
          unfold runsTo
          go_simp
         try simp only[Act.put,aT,aZ,aS]
         refine tkW 21 48 (.bool true) hH (λw hSw=>?_) (λhH=>?_)
         ·have p9:=B3.out
          unfold runsTo
          go_simp
         try simp only[Act.put,aT,aZ,aS]
         refine tkV 22 49 (.bool true) hH (λhH=>?_)
         try simp only[Act.put,aT,aZ,aS]
         refine tkV 23 50 (.bool true) hH (λhH=>?_)
         try simp only[Act.put,aT,aZ,aS]
         refine tkV 24 51 (.int .i64 (i:Nat)) hH (λhH=>?_)
         try simp only[Act.put,aT,aZ,aS]
         refine tkW 25 52 (.pointer (some ⟨z,iq,none⟩)) hH (λw hSw=>?_) (λhH=>?_)
         ·exact val_of (HI2.out w)
         try simp only[Act.put,aT,aZ,aS]
         refine tkW 26 53 (.agg u) hH (λw hSw=>?_) (λhH=>?_)
         ·exact val_of (HLA.out w hSw)
         try simp only[Act.put,aT,aZ,aS]
         refine tkV 27 54 (.int .i64 (k:Nat)) hH (λhH=>?_)
         try simp only[Act.put,aT,aZ,aS]
         refine tkW 28 55 (.pointer (some ⟨z,kq,none⟩)) hH (λw hSw=>?_) (λhH=>?_)
         ·exact val_of (HJ2.out w)
         try simp only[Act.put,aT,aZ,aS]
         refine tkW 29 56 (.agg uk) hH (λw hSw=>?_) (λhH=>?_)
         ·exact val_of (HLK.out w hSw)
         try simp only[Act.put,aT,aZ,aS]
         refine tkC 30 (λK hK=>?_)
         change Oper.wp _ ⟨some 57,_,_,_,_,_⟩ _ _ _ _
         go_simp
         refine (HS2.out _).mono ?_
         rintro e w2 ⟨rfl,hb2⟩
         have HN:=hid (HM.out.drew.on hb2)
         clear hb2 HS2
         dsimp only
         refine hK.out _ _ HN.out (λhH=>?_)
         clear hK K
         try simp only[Act.put,aT,aZ,aS]
         refine tkV 31 58 (.bool (!b4)) hH (λhH=>?_)
         try simp only[Act.put,aT,aZ,aS]
         refine tkV 32 59 (.bool (!b4)) hH (λhH=>?_)
         try simp only[Act.put,aT,aZ,aS]
         refine⟨wpAnyH_done (by kernel_rfl) ?_ _⟩
         clear hH
         cases b4 with
         | true=>
          have h9:=HK3.out
          have HOX:=hid (HNX.out (λ_ _ _=>sameB_true B4.out))
          go_wp2_with fail
          go_roundw
          case rel=>exact⟨k+1,by have:=HKI.out;omega,by first | rfl | go_num,HN,HOX⟩
          case measure=>have:=HKI.out;simp[intOf];omega
         | false=>
          have HX:=hid (HNO.out i HLT.out (HBAD.out (λh=>by
           refine sameB_false B4.out (h ?_ ?_ ?_)
           ·rw[Hkk.out];exact eq_of_beq B2.out
           ·rw[Hxi.out]
            intro h2
            have h3:=B1.out
            rw[h2]at h3
            rw[ByteArray.toList_eq]at h3
            simp at h3
           ·rw[Hxk.out,Hxi.out]
            exact bytes_eq (by rw[←ByteArray.toList_eq,←ByteArray.toList_eq];exact eq_of_beq B3.out))) _ HN.out.hb)
          go_wp2_with fail
          go_ret
          exact HX.out
   ·have hkb:(kd != 0)=true:=by simp[hk0]
    have HKN:=hid (show (P.get i).kind≠0 from by rw[Hkd.out];exact hk0)
    obtain⟨b4,B4⟩:=name_itV (sameB (t.get i) (P.get i))
    rw[B4.out]at HS1
    clear hi h3 hk0
    go_upto_region 5 with ((with_reducible refine at_dst (some 11) ?_);refine val_arm rfl (.pointer (some ⟨z+1,iq,none⟩)) (val_of (HI3.out _)) ?_)
    clear q4 e1 hkb
    refine wp_region_held_drew (S:=λW'=>AlM w z c1 c2 W') (by kernel_rfl) HM.out.drew (λhH=>?_)
    refine Boxed.out ?_
    refine tkV 0 15 (.int .i64 (i:Nat)) hH (λhH=>?_)
    try simp only[Act.put,aT,aZ,aS]
    refine tkW 1 16 (.pointer (some ⟨z,iq,none⟩)) hH (λw hSw=>?_) (λhH=>?_)
    ·exact val_of (HI2.out w)
    try simp only[Act.put,aT,aZ,aS]
    refine tkW 2 17 (.agg u) hH (λw hSw=>?_) (λhH=>?_)
    ·exact val_of (HLA.out w hSw)
    try simp only[Act.put,aT,aZ,aS]
    refine tkV 3 18 (.int .i64 (i:Nat)) hH (λhH=>?_)
    try simp only[Act.put,aT,aZ,aS]
    refine tkW 4 19 (.pointer (some ⟨z+1,iq,none⟩)) hH (λw hSw=>?_) (λhH=>?_)
    ·exact val_of (HI3.out w)
    try simp only[Act.put,aT,aZ,aS]
    refine tkW 5 20 (.agg u2) hH (λw hSw=>?_) (λhH=>?_)
    ·exact val_of (HLB.out w hSw)
    try simp only[Act.put,aT,aZ,aS]
    refine tkC 6 (λK hK=>?_)
    change Oper.wp _ ⟨some 21,_,_,_,_,_⟩ _ _ _ _
    go_simp
    refine (HS1.out _).mono ?_
    rintro e w2 ⟨rfl,hb2⟩
    have HN:=hid (HM.out.drew.on hb2)
    clear hb2 HS1
    dsimp only
    refine hK.out _ _ HN.out (λhH=>?_)
    clear hK K
    try simp only[Act.put,aT,aZ,aS]
    refine tkV 7 22 (.bool (!b4)) hH (λhH=>?_)
    try simp only[Act.put,aT,aZ,aS]
    refine⟨wpAnyH_done (by kernel_rfl) ?_ _⟩
    clear hH
    cases b4 with
    | true=>
     have HOX:=hid (show ∀e,e<i+1→okI P t e from λe he=>by
      by_cases h:e=i
      ·subst h
       exact⟨λ_=>sameB_true B4.out,λh0=>absurd h0 HKN.out⟩
      ·exact HOK.out e (by omega))
     have h9:=HLT.out
     go_wp2_with fail
     go_roundw
     case rel=>exact⟨i+1,by have:=HLT.out;omega,by first | rfl | go_num,HN,HOX⟩
     case measure=>have:=HLT.out;simp[intOf];omega
    | false=>
     have HX:=hid (HNO.out i HLT.out (λh=>sameB_false B4.out (h.1 HKN.out)) _ HN.out.hb)
     go_wp2_with fail
     go_ret
     exact HX.out
end Go.Proofs.YtefhfadjajcmkaaGreatDoor
namespace Go.Proofs.YtefhfadjajcmkaaGreatDoor
open Go Go.RowKit Go.Shelf Go.Lib Go.Sort Go.Proofs Go.Maps
open Go.Lib (hid cell_of_heap)
theorem sortN_any {w:World} {ix:List Nat} {s:Value} (hrow:w.ownsRow 0 3 1 s ix.length (ixC ix)) (hlen:ix.length≤100000000) :
    Calls Tryz.prog 62 #[s] w λe w'=>e = .returned (.tuple #[])∧∃ix':List Nat,ix'.Perm ix ∧
     ix'.Pairwise (λa b=>a≤b)∧w'.ownsRow 0 3 1 s ix'.length (ixC ix')∧Turn (λb=>s.ownBlock=some b) w w':=by
 rcases hrow.2 with⟨he,h0⟩ | ⟨b,bcap,cur,he,_,hbk,hcap,hmax,hcc,htake⟩
 ·subst he
  have hl0:ix=[]:=List.eq_nil_of_length_eq_zero h0
  subst hl0
  refine (Any.slices_Sort_int_none Tryz.lays189 none 0 w).mono λe w' ⟨he,hw⟩=>⟨he,[],List.Perm.refl _,List.Pairwise.nil,?_,?_⟩
  ·rw[hw];exact hrow
  ·rw[hw];exact Turn.refl _ _
 ·subst he
  have hblt:=blk_lt hbk
  have hzl:(ix.map λk:Nat=>(k:Int)).length=ix.length:=List.length_map _
  have hH:Holds (Value.int .i64) w b 0 (ix.map λk:Nat=>(k:Int)).toArray:=by
   intro j hj
   refine⟨?_,by simp[World.frozen?,hbk]⟩
   have hj':j<ix.length:=by rw[List.size_toArray,hzl]at hj;exact hj
   have h2:=hrow.cellAt j (by omega)
   rw[Nat.zero_add,h2,getElem!_pos _ j hj]
   unfold ixC
   rw[List.getElem?_map,List.getElem?_eq_getElem hj']
   simp
  have hcon:=Any.slices_Sort_int Tryz.lays189 b 0 bcap (ix.map λk:Nat=>(k:Int)) w hH hblt (by rw[hzl];omega)
  rw[hzl]at hcon
  refine hcon.mono λe w' ⟨he,m,os,hw⟩=>⟨he,ix.mergeSort (λx y=>decide (x≤y)),List.mergeSort_perm _ _,?_,?_,?_⟩
  ·exact (List.pairwise_mergeSort (le:=λx y:Nat=>decide (x≤y)) (λa b c h1 h2=>by simp at h1 h2 ⊢;omega) (λa b=>by simp;omega) ix).imp λh=>by simpa using h
  ·have hms:(ix.map λk:Nat=>(k:Int)).mergeSort (λx y=>decide (x≤y))=(ix.mergeSort (λx y=>decide (x≤y))).map λk:Nat=>(k:Int):=
     (List.map_mergeSort (λa _ b _=>by simp)).symm
   rw[hms]at hw
   obtain⟨jx,hj⟩:∃jx,jx=ix.mergeSort (λx y=>decide (x≤y)):=⟨_,rfl⟩
   have hjl:jx.length=ix.length:=by rw[hj,List.length_mergeSort]
   rw[←hj]at hw ⊢
   rw[hjl,hw]
   have:=row_put (e:=3) (m:=m) (os:=os) (sz:=1) (Value.int .i64) (d:=(jx.map λk:Nat=>(k:Int)).toArray) hbk hcap hmax hcc (by simp[hjl])
   unfold ixC
   rw[List.map_map]at this
   exact this
  ·rw[hw]
   exact (sortedI_turn (enc:=Value.int .i64) (n:=m) (os:=os)).mono λi _ hi=>by rw[hi];rfl
end Go.Proofs.YtefhfadjajcmkaaGreatDoor
namespace Go.Proofs.YtefhfadjajcmkaaGreatDoor
open Go Go.RowKit Go.Maps
open Go.Lib (hid cell_of_heap)
def pastF (K:List Trip) (p:Nat) (strict:Bool) (v:Val) (n:Nat):Bool:=
 match K[n]? with
 | some t=>if strict=true then decide (0<ordV (t.get p) v) else decide (0≤ordV (t.get p) v)
 | none=>true
theorem pastF_at {K:List Trip} {p:Nat} {strict:Bool} {v:Val} {n:Nat} {t:Trip} (h:K[n]?=some t):pastF K p strict v n=if strict=true then decide (0<ordV (t.get p) v) else decide (0≤ordV (t.get p) v):=by
 unfold pastF
 rw[h]
theorem pastF_mono {T K:List Trip} {w:Way} {pre:List Val} {u:Val} {a b s:Nat} (hK:InWay T K w) (hl:Lev K w pre u a b s) (strict:Bool) (v:Val) (i i':Nat) (h1:a≤i) (h2:i≤i') (h3:i'<b) (h:pastF K (w.get pre.length) strict v i=true):pastF K (w.get pre.length) strict v i'=true:=by
 obtain⟨x,hx⟩:=hl.at_ (show i<b by omega)
 obtain⟨y,hy⟩:=hl.at_ h3
 rw[pastF_at hx]at h
 rw[pastF_at hy]
 have bx:=(hl.span i x hx).1 ⟨by have:=hl.sa;omega,by omega⟩
 have by':=(hl.span i' y hy).1 ⟨by have:=hl.sa;omega,h3⟩
 have hle:=hK.mono hl.d3 hx hy h2 bx by'
 cases strict with
 | true=>
  rw[if_pos rfl]at h ⊢
  have h:=of_decide_eq_true h
  refine decide_eq_true ?_
  have q1:=ordV_anti (x.get (w.get pre.length)) v
  have q2:=ordV_anti (y.get (w.get pre.length)) v
  have:=ordV_pre.lt_trans (a:=v) (b:=x.get (w.get pre.length)) (d:=y.get (w.get pre.length)) (by omega) hle
  omega
 | false=>
  rw[if_neg Bool.false_ne_true]at h ⊢
  have h:=of_decide_eq_true h
  refine decide_eq_true ?_
  have q1:=ordV_anti (x.get (w.get pre.length)) v
  have q2:=ordV_anti (y.get (w.get pre.length)) v
  have:=ordV_pre.trans v (x.get (w.get pre.length)) (y.get (w.get pre.length)) (by omega) hle
  omega
theorem first_of {K:List Trip} {p a b m:Nat} {strict:Bool} {v:Val} (h1:a≤m) (h2:m≤b) (h3:∀i,a≤i→i<m→pastF K p strict v i=false) (h4:m<b→pastF K p strict v m=true) :
    FirstAt K (λt=>(if strict=true then decide (0<ordV (t.get p) v) else decide (0≤ordV (t.get p) v))=true) a b m:=
 ⟨h1,h2,λn t q1 q2 ht=>by have:=h3 n q1 q2;rw[pastF_at ht]at this;rw[this];exact Bool.false_ne_true,λt q1 ht=>by have:=h4 q1;rw[pastF_at ht]at this;exact this⟩
theorem zero88:(Tryz.prog.info? 168).map (·.size)=some 2:=by kernel_rfl
theorem trip_fit {T:List Trip} {ix:List Nat} {j:Nat} (h:IxOf (wayN j) T ix) (hs:∀t,t∈T→ScalT t) (hf:∀t,t∈T→∀n,FitV (t.get n)) {n:Nat} {t:Trip} (ht:(Kof T ix)[n]?=some t):∀p,KindT (t.get p):=λp=>by
 have hm:=((inway_of h hs).mem t).1 (List.mem_of_getElem? ht)
 exact⟨((hs t hm).get p).2.1,hf t hm p⟩
set_option maxRecDepth 100000 in
set_option maxHeartbeats 8000000 in
theorem behind_any {F:Nat→Prop} {q c j:Nat} {T:List Trip} {ix:List Nat} {cs:Nat→Array Value} {S s:Value} {d d':Nat} {at_ en:Nat→Nat} {w:World} (h:CurW F q c j T ix cs S s d' at_ en w) (hdd:d'=d+1) (hd:d<3) (hgb:GlobB w) (hgt:GlobT w)
    (x y:Nat) (hx:at_ d'=x) (hy:en d'=y) (hxy:x<y) (hyl:y≤ix.length) (t:Trip) (ht:(Kof T ix)[x]?=some t) (hmono:∀i i',x≤i→i≤i'→i'<y→pastF (Kof T ix) ((wayN j).get d) true (t.get ((wayN j).get d)) i=true→pastF (Kof T ix) ((wayN j).get d) true (t.get ((wayN j).get d)) i'=true) :
    Calls Tryz.prog 108 #[.pointer (some ⟨q,0,none⟩)] w (GalIs (pastF (Kof T ix) ((wayN j).get d) true (t.get ((wayN j).get d))) x y w):=by
 have HCW:=hid h
 have HDD:=hid (And.intro hdd hd)
 have HXY:=hid (And.intro hxy hyl)
 have HMO:=hid hmono
 have HG:=hid (And.intro hgb hgt)
 have HT:=hid ht
 have ca:=hid (λ(w':World) (h':CurW F q c j T ix cs S s d' at_ en w')=>(show w'.cell? ⟨q,6+d'*2,none⟩=some (.int .i64 (x:Nat)) from by rw[←hx];exact h'.ca (by omega)))
 have ce:=hid (λ(w':World) (h':CurW F q c j T ix cs S s d' at_ en w')=>(show w'.cell? ⟨q,6+d'*2+1,none⟩=some (.int .i64 (y:Nat)) from by rw[←hy];exact h'.ce (by omega)))
 have HD4:=hid (show d'<4 from by omega)
 have HVT:=hid (trip_fit h.r.ixo h.r.scal h.r.fit ht)
 have HKF:=hid (λ(n:Nat) (u:Trip) (hu:(Kof T ix)[n]?=some u)=>trip_fit h.r.ixo h.r.scal h.r.fit hu)
 clear h hdd hd hgb hgt hxy hyl ht hmono hx hy
 go_enter Tryz.func108,Tryz.ntmps108
 go_upto_region 1 with fail
 refine wp_region_held_drew (S:=λW'=>CurW F q c j T ix cs S s d' at_ en W') (by kernel_rfl) HCW.out.drew (λhH=>?_)
 refine Boxed.out ?_
 refine tkV 0 5 (.pointer (some ⟨q,0,none⟩)) hH (λhH=>?_)
 try simp only[Act.put,aT,aZ,aS]
 refine tkV 1 6 (.pointer (some ⟨q,0,none⟩)) hH (λhH=>?_)
 try simp only[Act.put,aT,aZ,aS]
 refine tkV 2 7 (.pointer (some ⟨q,0,none⟩)) hH (λhH=>?_)
 try simp only[Act.put,aT,aZ,aS]
 refine tkV 3 8 (.pointer (some ⟨q,5,none⟩)) hH (λhH=>?_)
 try simp only[Act.put,aT,aZ,aS]
 refine tkW 4 9 (.int .i64 (d':Nat)) hH (λw hSw=>?_) (λhH=>?_)
 ·have p:=hSw.c5
  unfold runsTo
  go_simp
 try simp only[Act.put,aT,aZ,aS]
 refine tkV 5 10 (.pointer (some ⟨q,0,none⟩)) hH (λhH=>?_)
 try simp only[Act.put,aT,aZ,aS]
 refine tkV 6 11 (.pointer (some ⟨q,6,none⟩)) hH (λhH=>?_)
 try simp only[Act.put,aT,aZ,aS]
 refine tkW 7 12 (.pointer (some ⟨q,6+d'*2,none⟩)) hH (λw hSw=>?_) (λhH=>?_)
 ·exact val_of (idx_lv q d' HD4.out w)
 try simp only[Act.put,aT,aZ,aS]
 refine tkW 8 13 (.agg (#[.int .i64 (x:Nat),.int .i64 (y:Nat)])) hH (λw hSw=>?_) (λhH=>?_)
 ·have q9:=run_loadAt_mid (P:=Tryz.prog) w q (6+d'*2) 168 [.int .i64 (x:Nat),.int .i64 (y:Nat)] _ (λi v hv=>by
    have hi:=(List.getElem?_eq_some_iff.1 hv).1
    rcases (show i=0∨i=1 by simp at hi;omega) with rfl | rfl
    ·injection hv with hv;rw[←hv];exact ca.out w hSw
    ·injection hv with hv;rw[←hv];exact ce.out w hSw) Tryz.underlying168 rfl zero88
  exact val_of q9
 try simp only[Act.put,aT,aZ,aS]
 obtain⟨z,Hz⟩:=name_itV w.heap.size
 have HBA:=hid (show Below w.heap.size w (w.alloc (.cells (#[.int .i64 0,.int .i64 0]) 168)).drew from ((Below.refl _ _).alloc (Nat.le_refl _) _).drew)
 have HXA:=hid (show (w.alloc (.cells (#[.int .i64 0,.int .i64 0]) 168)).drew.heap[z]?=some (.cells (#[.int .i64 0,.int .i64 0]) 168 (0,0)) from by rw[←Hz.out];exact heap_alloc_new w _)
 have HCA:=hid (HCW.out.on HBA.out)
 refine tkC 9 (λK hK=>?_)
 change Oper.wp _ ⟨some 3,_,_,_,_,_⟩ _ _ _ _
 go_simp
 refine hK.out _ _ HCA.out (λhH=>?_)
 clear hK K
 try simp only[Act.put,aT,aZ,aS]
 refine tkC 10 (λK hK=>?_)
 change Oper.wp _ _ _ _ _ _
 refine st_rowW 168 _ _ rfl z _ (#[.int .i64 (x:Nat),.int .i64 (y:Nat)]) 168 (by rw[←Hz.out];rfl) rfl HXA.out rfl zero88 (by kernel_rfl) (λw2 hw2 ht2=>?_)
 have HX2:=hid hw2
 have HZF:=hid (show (∀b,F b→¬b=z)∧¬q=z from ⟨λb hb e=>by have:=HCW.out.fl b hb;have h2:w.heap.size=z:=Hz.out;omega,λe=>by have:=blk_lt HCW.out.cur;have h2:w.heap.size=z:=Hz.out;omega⟩)
 have HB2:=hid (show Below w.heap.size w w2 from HBA.out.trans ⟨ht2.os,ht2.tape,ht2.output,ht2.size,λk hk=>ht2.block k (Nat.lt_of_lt_of_le hk HBA.out.size) (by rw[←Hz.out];omega)⟩)
 have HC2:=hid (HCA.out.turn ht2 HZF.out.1 HZF.out.2)
 refine hK.out _ _ HC2.out (λhH=>?_)
 clear hK K hw2 ht2
 try simp only[Act.put]
 refine⟨wpAnyH_done (by kernel_rfl) ?_ _⟩
 clear hH
 rw[Hz.out]
 have z0:w2.cell? ⟨z,0,none⟩=some (.int .i64 (x:Nat)):=cell_of_heap HX2.out 0
 go_wp2_with fail
 refine (key_any HC2.out HDD.out.1 HDD.out.2 x (by have:=HXY.out;omega) t HT.out).mono ?_
 rintro e w3 ⟨A0,cap0,rfl,hb3⟩
 have HB3:=hid (HB2.out.trans (hb3.mono HB2.out.size))
 have HC3:=hid (HC2.out.on hb3)
 have HX3:=hid ((hb3.block z (blk_lt HX2.out)).trans HX2.out)
 obtain⟨u,Hu⟩:=name_itV (cellsV (t.get ((wayN j).get d)) (.slice A0 0 cap0))
 have ZU:=hid (show u.size=6 from by rw[←Hu.out];rfl)
 have IU:=hid (infoV6.trans (congrArg some ZU.out.symm))
 have OU:=hid (show u.all (·.oneCell')=true from by rw[←Hu.out];kernel_rfl)
 rw[Hu.out]
 clear hb3 z0
 obtain⟨zv,Hzv⟩:=name_itV w3.heap.size
 have HXV:=hid (show (w3.alloc (.cells (#[.int .i64 0,.bool false,.int .i64 0,.string ⟨#[]⟩,.string ⟨#[]⟩,.slice none 0 0]) 39)).heap[zv]?=some (.cells (#[.int .i64 0,.bool false,.int .i64 0,.string ⟨#[]⟩,.string ⟨#[]⟩,.slice none 0 0]) 39 (0,0)) from by rw[←Hzv.out];exact heap_alloc_new w3 _)
 go_upto_region 3 with ((with_reducible refine at_st 4 ?_);refine st_row rfl 39 _ _ rfl zv (#[.int .i64 0,.bool false,.int .i64 0,.string ⟨#[]⟩,.string ⟨#[]⟩,.slice none 0 0]) u 39 (by rw[←Hzv.out];rfl) rfl HXV.out ZU.out IU.out OU.out ?_;intro w4 hw4 ht4)
 rw[Hzv.out]
 have HB34:=hid (show Below w3.heap.size w3 w4 from box_below (by rw[Hzv.out];exact ht4))
 have HB4:=hid (HB3.out.trans (HB34.out.mono HB3.out.size))
 have HC4:=hid (HC3.out.on HB34.out)
 have HV4:=hid (show VarV zv (t.get ((wayN j).get d)) (.slice A0 0 cap0) w4 from by unfold VarV;rw[Hu.out];exact hw4)
 have HX4:=hid ((HB34.out.block z (blk_lt HX3.out)).trans HX3.out)
 clear hw4 ht4
 have z0:w4.cell? ⟨z,0,none⟩=some (.int .i64 (x:Nat)):=cell_of_heap HX4.out 0
 have z1:w4.cell? ⟨z,1,none⟩=some (.int .i64 (y:Nat)):=cell_of_heap HX4.out 1
 have HGA:=hid (gallop_any HC4.out HDD.out.1 HDD.out.2 161 zv (pastF (Kof T ix) ((wayN j).get d) true (t.get ((wayN j).get d))) (λW hW n v A cap hv=>by
  rw[pastF_at hv,if_pos rfl]
  exact past_behind (v.get ((wayN j).get d)) (t.get ((wayN j).get d)) _ _ zv W ((hW.block zv (blk_lt HV4.out)).trans HV4.out) (HKF.out n v hv _) (HVT.out _).fit (glob_under HG.out.1 (HB4.out.trans (hW.mono HB4.out.size))) (globT_under HG.out.2 (HB4.out.trans (hW.mono HB4.out.size)))) (enters_of Tryz.func161 (by kernel_rfl) rfl) x y HMO.out (by have:=HXY.out;omega) HXY.out.2)
 go_wp2_with fail
 refine HGA.out.mono ?_
 rintro e w5 ⟨m,rfl,h1,h2,h3,h4,hb5⟩
 have HFI:=hid (show GalIs (pastF (Kof T ix) ((wayN j).get d) true (t.get ((wayN j).get d))) x y w (.returned (.int .i64 (m:Nat))) w5 from ⟨m,rfl,h1,h2,h3,h4,HB4.out.trans (hb5.mono HB4.out.size)⟩)
 clear h1 h2 h3 h4 hb5 z0 z1
 go_wp2_with fail
 go_ret
 exact HFI.out
def CurRd (F:Nat→Prop) (w:World) (q j:Nat) (T:List Trip) (c:CurA):Prop:=
 ∃(cc:Nat) (ix:List Nat) (cs:Nat→Array Value) (S s:Value) (at_ en:Nat→Nat),CurW F q cc j T ix cs S s c.way.length at_ en w∧CurN (Kof T ix) (wayN j) c at_ en
def CurDo (F:Nat→Prop) (q j:Nat) (T:List Trip) (r:CurA×Bool) (w:World) (e:Ending) (w':World):Prop:=e = .returned (.bool r.2)∧CurRd F w' q j T r.1∧Turn (λb=>b=q) w w'
section
variable {F:Nat→Prop} {q c j:Nat} {T:List Trip} {ix:List Nat} {cs:Nat→Array Value} {S s:Value} {d:Nat} {at_ en:Nat→Nat} {w w':World}
theorem CurW.setD (h:CurW F q c j T ix cs S s d at_ en w) (d2:Nat):CurW F q c j T ix cs S s d2 at_ en (w.setCell ⟨q,5,none⟩ (.int .i64 (d2:Nat))):=by
 have ht:=(Turn.refl (λb=>b=q) w).setCell (p:=⟨q,5,none⟩) (.inr rfl) (.int .i64 (d2:Nat))
 refine⟨h.r.keep λb hb=>ht.block b (h.fl b hb) (λe=>h.fq (by have e:b=q:=e;rw[←e];exact hb)),heap_setCell_same w q 5 _ _ _ h.cur,h.fq,λb hb=>Nat.lt_of_lt_of_le (h.fl b hb) ht.size⟩
theorem CurW.setA (h:CurW F q c j T ix cs S s d at_ en w) {e:Nat} (he:e<4) (x:Nat):CurW F q c j T ix cs S s d (upd at_ e x) en (w.setCell ⟨q,6+e*2,none⟩ (.int .i64 (x:Nat))):=by
 have ht:=(Turn.refl (λb=>b=q) w).setCell (p:=⟨q,6+e*2,none⟩) (.inr rfl) (.int .i64 (x:Nat))
 refine⟨h.r.keep λb hb=>ht.block b (h.fl b hb) (λe=>h.fq (by have e:b=q:=e;rw[←e];exact hb)),?_,h.fq,λb hb=>Nat.lt_of_lt_of_le (h.fl b hb) ht.size⟩
 rcases (show e=0∨e=1∨e=2∨e=3 by omega) with rfl | rfl | rfl | rfl<;>exact heap_setCell_same w q _ _ _ _ h.cur
theorem CurW.setL (h:CurW F q c j T ix cs S s d at_ en w) {e:Nat} (he:e<4) (x y:Nat):CurW F q c j T ix cs S s d (upd at_ e x) (upd en e y) ((w.setCell ⟨q,6+e*2,none⟩ (.int .i64 (x:Nat))).setCell ⟨q,6+e*2+1,none⟩ (.int .i64 (y:Nat))):=by
 have h1:=h.setA he x
 have ht:=(Turn.refl (λb=>b=q) (w.setCell ⟨q,6+e*2,none⟩ (.int .i64 (x:Nat)))).setCell (p:=⟨q,6+e*2+1,none⟩) (.inr rfl) (.int .i64 (y:Nat))
 refine⟨h1.r.keep λb hb=>ht.block b (h1.fl b hb) (λe=>h.fq (by have e:b=q:=e;rw[←e];exact hb)),?_,h.fq,λb hb=>Nat.lt_of_lt_of_le (h1.fl b hb) ht.size⟩
 rcases (show e=0∨e=1∨e=2∨e=3 by omega) with rfl | rfl | rfl | rfl<;>exact heap_setCell_same _ q _ _ _ _ h1.cur
end
set_option maxRecDepth 100000 in
set_option maxHeartbeats 2000000 in
theorem up_any {F:Nat→Prop} {q j:Nat} {T:List Trip} {c:CurA} {w:World} (h:CurRd F w q j T c) :
    Calls Tryz.prog 42 #[.pointer (some ⟨q,0,none⟩)] w (CurDo F q j T (upA c) w):=by
 obtain⟨cc,ix,cs,S,s,at_,en,hw,hn⟩:=h
 have c5:=hw.c5
 obtain⟨d,hd⟩:=name_itV c.way.length
 rw[hd.out]at c5
 by_cases h0:d=0
 ·subst h0
  have HR:=hid (show CurDo F q j T (upA c) w (.returned (.bool false)) w from by rw[up_none hd.out];exact⟨rfl,⟨cc,ix,cs,S,s,at_,en,hw,hn⟩,Turn.refl _ _⟩)
  clear hw hn hd
  go_enter Tryz.func42,Tryz.ntmps42
  go_wp2_with fail
  go_ret
  exact HR.out
 ·obtain⟨e,he⟩:∃e,d=e+1:=⟨d-1,by omega⟩
  have f5:w.frozen? ⟨q,5,none⟩=false:=Lib.frozen_of_heap hw.cur 5
  have d3:=hn.d3
  have w1:IntKind.i64.wrap ((d:Int)-1)=((e:Nat):Int):=by rw[IntWalk.i64_in _ (by rw[hd.out]at d3;omega)];omega
  have t1:((d:Int)==0)=false:=by simpa using h0
  have HR:=hid (show CurDo F q j T (upA c) w (.returned (.bool true)) (w.setCell ⟨q,5,none⟩ (.int .i64 (e:Nat))) from by
   obtain⟨e1,e2⟩:=hn.up (by rw[hd.out];omega)
   rw[e1]
   exact⟨rfl,⟨cc,ix,cs,S,s,at_,en,by have:=hw.setD e;rwa [show e=c.way.dropLast.length by rw[List.length_dropLast,hd.out];omega]at this ⊢,e2⟩,(Turn.refl (λb=>b=q) w).setCell (p:=⟨q,5,none⟩) (.inr rfl) _⟩)
  clear hw hn hd h0 he d3
  go_enter Tryz.func42,Tryz.ntmps42
  go_wp2_with fail
  go_ret
  exact HR.out
set_option maxRecDepth 100000 in
theorem depth_any {F:Nat→Prop} {q j:Nat} {T:List Trip} {c:CurA} {w:World} (h:CurRd F w q j T c) :
    Calls Tryz.prog 43 #[.pointer (some ⟨q,0,none⟩)] w λe w'=>e = .returned (.int .i64 (c.way.length:Nat))∧w'=w:=by
 obtain⟨cc,ix,cs,S,s,at_,en,hw,hn⟩:=h
 have c5:=hw.c5
 obtain⟨d,hd⟩:=name_itV c.way.length
 rw[hd.out]at c5 ⊢
 clear hw hn hd
 go_enter Tryz.func43,Tryz.ntmps43
 go_wp2_with fail
 go_ret
 exact⟨rfl,rfl⟩
set_option maxRecDepth 100000 in
theorem len_any {F:Nat→Prop} {c:Nat} {T:List Trip} {w:World} (h:StoreAt F w c T) :
    Calls Tryz.prog 18 #[.pointer (some ⟨c,0,none⟩)] w λe w'=>e = .returned (.int .i64 (T.length:Nat))∧w'=w:=by
 obtain⟨S,ss,cs,h1,h2,_⟩:=h.cells
 obtain⟨A,cap,rfl,_⟩:=h2.form
 have c0:w.cell? ⟨c,0,none⟩=some (.slice A T.length cap):=cell_of_heap h1 0
 obtain⟨n,hn⟩:=name_itV T.length
 rw[hn.out]at c0 ⊢
 clear h h1 h2 hn
 go_enter Tryz.func18,Tryz.ntmps18
 go_wp2_with fail
 go_ret
 exact⟨rfl,rfl⟩
end Go.Proofs.YtefhfadjajcmkaaGreatDoor
