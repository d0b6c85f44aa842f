/- Values held against each other by the program: Order: printed by gen_XA.py. -/
import Derived.Test.YtefhfadjajcmkaaGreatDoorK6
set_option linter.unusedVariables false
set_option linter.unusedSimpArgs false
set_option maxRecDepth 100000
set_option maxHeartbeats 8000000
namespace Go.Proofs.YtefhfadjajcmkaaGreatDoor
open Go Go.RowKit
open Go.Lib (hid cell_of_heap)
theorem cmpInt_any (x y:Int) (w:World):Calls Tryz.prog 126 #[.int .i64 x,.int .i64 y] w λe w'=>e = .returned (.int .i64 (cmpI x y))∧w'=w:=by
 refine (Any.cmp_Compare_int Tryz.lays122 x y w).mono ?_
 rintro e w' ⟨rfl,hw⟩
 refine⟨ret_i ?_,hw⟩
 unfold Lib.compareInt cmpI
 (repeat' split)<;>first | rfl | (exfalso;omega)
theorem or2_any (x y:Int) (g cap:Nat) (w:World) (h0:w.cell? ⟨g,0,none⟩=some (.int .i64 x)) (h1:w.cell? ⟨g,1,none⟩=some (.int .i64 y)) :
    Calls Tryz.prog 135 #[.slice (some ⟨g,0,none⟩) 2 cap] w λe w'=>e = .returned (.int .i64 (thenC x y))∧w'=w:=by
 obtain⟨v,Hv⟩:=name_itV (thenC x y)
 rw[Hv.out]
 unfold thenC at Hv
 go_enter Tryz.func135,Tryz.ntmps135
 go_wp2_with fail
 go_loopw [8] (λs8 wx=>∃k:Nat,k≤2∧s8 = .int .i64 (k:Nat)∧wx=w∧Hid ((0<k→x=0)∧(1<k→y=0))) (λs8 _=>2-(intOf s8).toNat)
 case atStart=>exact⟨0,by omega,rfl,rfl,hid ⟨λh=>absurd h (by omega),λh=>absurd h (by omega)⟩⟩
 case round=>
  obtain⟨k,hk,rfl,rfl,hz⟩:=hrel
  by_cases hk2:k=2
  ·subst hk2
   have Hr:=hid (show v=0 from by rw[←Hv.out,if_pos (hz.out.1 (by omega)),hz.out.2 (by omega)])
   clear hz Hv
   go_wp2_with fail
   go_ret
   exact⟨ret_i Hr.out.symm,rfl⟩
  ·by_cases hk1:k=1
   ·subst hk1
    have e0:=hid (hz.out.1 (by omega))
    clear hz
    by_cases hy:y=0
    ·have t1:(y != 0)=false:=by simpa using hy
     have ey:=hid hy
     clear hy Hv
     go_wp2_with fail
     go_roundw
     case rel=>exact⟨2,by omega,(by first | rfl | trivial),(by first | rfl | trivial),hid ⟨λ_=>e0.out,λ_=>ey.out⟩⟩
     case measure=>simp[intOf]
    ·have t1:(y != 0)=true:=bne_iff_ne.2 hy
     have Hr:=hid (show v=y from by rw[←Hv.out,if_pos e0.out])
     clear hy Hv
     go_wp2_with fail
     go_ret
     exact⟨ret_i Hr.out.symm,rfl⟩
   ·have hk0:k=0:=by omega
    subst hk0
    clear hk1 hk2 hz
    by_cases hx:x=0
    ·have t1:(x != 0)=false:=by simpa using hx
     have ex:=hid hx
     clear hx Hv
     go_wp2_with fail
     go_roundw
     case rel=>exact⟨1,by omega,(by first | rfl | trivial),(by first | rfl | trivial),hid ⟨λ_=>ex.out,λh=>absurd h (by omega)⟩⟩
     case measure=>simp[intOf]
    ·have t1:(x != 0)=true:=bne_iff_ne.2 hx
     have Hr:=hid (show v=x from by rw[←Hv.out,if_neg hx])
     clear hx Hv
     go_wp2_with fail
     go_ret
     exact⟨ret_i Hr.out.symm,rfl⟩
theorem ao_boolean_whole (y:Value) (w:World):(Instr.typeAssert (.iface 194 y) 20 188 true).run Tryz.prog w = .ok (.tuple #[.int .i64 0,.bool false]) w:=by kernel_rfl
theorem ao_boolean_broken (y:Value) (w:World):(Instr.typeAssert (.iface 194 y) 20 189 true).run Tryz.prog w = .ok (.tuple #[.string ⟨#[]⟩,.bool false]) w:=by kernel_rfl
theorem ao_boolean_list (y:Value) (w:World):(Instr.typeAssert (.iface 194 y) 20 191 true).run Tryz.prog w = .ok (.tuple #[.slice none 0 0,.bool false]) w:=by kernel_rfl
theorem ao_boolean_thing (y:Value) (w:World):(Instr.typeAssert (.iface 194 y) 20 193 true).run Tryz.prog w = .ok (.tuple #[.int .i64 0,.bool false]) w:=by kernel_rfl
theorem ao_boolean_boolean (y:Value) (w:World):(Instr.typeAssert (.iface 194 y) 20 194 true).run Tryz.prog w = .ok (.tuple #[y,.bool true]) w:=by kernel_rfl
theorem ao_whole_whole (y:Value) (w:World):(Instr.typeAssert (.iface 188 y) 20 188 true).run Tryz.prog w = .ok (.tuple #[y,.bool true]) w:=by kernel_rfl
theorem ao_whole_broken (y:Value) (w:World):(Instr.typeAssert (.iface 188 y) 20 189 true).run Tryz.prog w = .ok (.tuple #[.string ⟨#[]⟩,.bool false]) w:=by kernel_rfl
theorem ao_broken_whole (y:Value) (w:World):(Instr.typeAssert (.iface 189 y) 20 188 true).run Tryz.prog w = .ok (.tuple #[.int .i64 0,.bool false]) w:=by kernel_rfl
theorem ao_broken_broken (y:Value) (w:World):(Instr.typeAssert (.iface 189 y) 20 189 true).run Tryz.prog w = .ok (.tuple #[y,.bool true]) w:=by kernel_rfl
theorem ao_words_whole (y:Value) (w:World):(Instr.typeAssert (.iface 234 y) 20 188 true).run Tryz.prog w = .ok (.tuple #[.int .i64 0,.bool false]) w:=by kernel_rfl
theorem ao_words_broken (y:Value) (w:World):(Instr.typeAssert (.iface 234 y) 20 189 true).run Tryz.prog w = .ok (.tuple #[.string ⟨#[]⟩,.bool false]) w:=by kernel_rfl
theorem ao_words_list (y:Value) (w:World):(Instr.typeAssert (.iface 234 y) 20 191 true).run Tryz.prog w = .ok (.tuple #[.slice none 0 0,.bool false]) w:=by kernel_rfl
theorem ao_words_thing (y:Value) (w:World):(Instr.typeAssert (.iface 234 y) 20 193 true).run Tryz.prog w = .ok (.tuple #[.int .i64 0,.bool false]) w:=by kernel_rfl
theorem ao_words_boolean (y:Value) (w:World):(Instr.typeAssert (.iface 234 y) 20 194 true).run Tryz.prog w = .ok (.tuple #[.bool false,.bool false]) w:=by kernel_rfl
theorem ao_literal_whole (y:Value) (w:World):(Instr.typeAssert (.iface 237 y) 20 188 true).run Tryz.prog w = .ok (.tuple #[.int .i64 0,.bool false]) w:=by kernel_rfl
theorem ao_literal_broken (y:Value) (w:World):(Instr.typeAssert (.iface 237 y) 20 189 true).run Tryz.prog w = .ok (.tuple #[.string ⟨#[]⟩,.bool false]) w:=by kernel_rfl
theorem ao_literal_list (y:Value) (w:World):(Instr.typeAssert (.iface 237 y) 20 191 true).run Tryz.prog w = .ok (.tuple #[.slice none 0 0,.bool false]) w:=by kernel_rfl
theorem ao_literal_thing (y:Value) (w:World):(Instr.typeAssert (.iface 237 y) 20 193 true).run Tryz.prog w = .ok (.tuple #[.int .i64 0,.bool false]) w:=by kernel_rfl
theorem ao_literal_boolean (y:Value) (w:World):(Instr.typeAssert (.iface 237 y) 20 194 true).run Tryz.prog w = .ok (.tuple #[.bool false,.bool false]) w:=by kernel_rfl
theorem alloc3_0 (w:World) (a b c:Obj):(((w.alloc a).alloc b).alloc c).heap[w.heap.size]?=some a:=by
 rw[Below.heap_alloc _ _ _ (by simp;omega),Below.heap_alloc _ _ _ (by simp)]
 exact heap_alloc_new w a
theorem alloc3_1 (w:World) (a b c:Obj):(((w.alloc a).alloc b).alloc c).heap[w.heap.size+1]?=some b:=by
 rw[Below.heap_alloc _ _ _ (by simp)]
 have:=heap_alloc_new (w.alloc a) b
 rwa [show (w.alloc a).heap.size=w.heap.size+1 by simp]at this
theorem alloc3_2 (w:World) (a b c:Obj):(((w.alloc a).alloc b).alloc c).heap[w.heap.size+2]?=some c:=by
 have:=heap_alloc_new ((w.alloc a).alloc b) c
 rwa [show ((w.alloc a).alloc b).heap.size=w.heap.size+2 by simp]at this
theorem ordP_rank (a b:Val) (sa sb:Value) (w:World) (hne:rankS a.kind≠rankS b.kind) :
    Calls Tryz.prog 68 #[.int .i64 1,.agg (cellsV a sa),.agg (cellsV b sb)] w (OrdIs a b w):=by
 have hr1:=hid (λW:World=>rankP_any a sa W)
 have hr2:=hid (λW:World=>rankP_any b sb W)
 have hci:=hid (λW:World=>cmpInt_any (rankS a.kind) (rankS b.kind) W)
 have HV:=hid (show cmpI (rankS a.kind) (rankS b.kind)=ordV a b from (ordV_rank hne).symm)
 have hv0:(ordV a b != 0)=true:=bne_iff_ne.2 (by rw[ordV_rank hne];exact λh=>hne ((cmpI_lin.eqv _ _).1 h))
 unfold RankIs at hr1 hr2
 obtain⟨v,Hv⟩:=name_itV (ordV a b)
 have HE:=hid (show ∀w',Below w.heap.size w w'→OrdIs a b w (.returned (.int .i64 v)) w' from λw' hb=>⟨by rw[Hv.out],hb⟩)
 rw[Hv.out]at HV hv0
 clear Hv
 obtain⟨r1,H1⟩:=name_itV (rankS a.kind)
 obtain⟨r2,H2⟩:=name_itV (rankS b.kind)
 rw[H1.out]at hr1
 rw[H2.out]at hr2
 rw[H1.out,H2.out]at hci HV
 have HC:=HV
 clear H1 H2
 obtain⟨c1,Hc1⟩:=name6 a sa
 obtain⟨c2,Hc2⟩:=name6 b sb
 rw[Hc1.out]at hr1 ⊢
 rw[Hc2.out]at hr2 ⊢
 have Q1:=hid Hc1.size
 have Q2:=hid Hc2.size
 obtain⟨z,Hz⟩:=name_itV w.heap.size
 obtain⟨w1,HW1⟩:=name_itV (((w.alloc (.cells #[.int .i64 1] 3)).alloc (.cells c1 39)).alloc (.cells c2 39))
 have HB:=hid (show Below w.heap.size w w1 from by rw[←HW1.out];exact (two_new w _ _).alloc (by simp;omega) _)
 have HL:=hid (show w1.heap[z]?=some (.cells #[.int .i64 1] 3 (0,0)) from by rw[←HW1.out,←Hz.out];exact alloc3_0 w _ _ _)
 have HX:=hid (show w1.heap[z+1]?=some (.cells c1 39 (0,0)) from by rw[←HW1.out,←Hz.out];exact alloc3_1 w _ _ _)
 have HY:=hid (show w1.heap[z+2]?=some (.cells c2 39 (0,0)) from by rw[←HW1.out,←Hz.out];exact alloc3_2 w _ _ _)
 clear hne HV
 go_enter Tryz.func68,Tryz.ntmps68
 go_upto_region 1 with fail
 rw[HW1.out,Hz.out]
 clear HW1
 have s1:=hid (show w1.drew.heap[z]?=some (.cells #[.int .i64 1] 3 (0,0))∧w1.drew.heap[z+1]?=some (.cells c1 39 (0,0))∧w1.drew.heap[z+2]?=some (.cells c2 39 (0,0)) from ⟨HL.out,HX.out,HY.out⟩)
 refine wp_region_held_drew (S:=λW'=>W'.heap[z]?=some (.cells #[.int .i64 1] 3 (0,0))∧W'.heap[z+1]?=some (.cells c1 39 (0,0))∧W'.heap[z+2]?=some (.cells c2 39 (0,0))) (by kernel_rfl) s1.out (λhH=>?_)
 refine Boxed.out ?_
 refine tkW 0 13 (.int .i64 1) hH (λw hSw=>?_) (λhH=>?_)
 ·have p:=cell_of_heap hSw.1 0
  unfold runsTo
  go_simp
 try simp only[Act.put,aT,aZ,aS]
 refine tkW 1 14 (.agg c1) hH (λw hSw=>?_) (λhH=>?_)
 ·exact val_of (ld_run hSw.2.1 39 _ Tryz.underlying39 rfl (by rw[Q1.out];kernel_rfl))
 try simp only[Act.put,aT,aZ,aS]
 refine tkW 3 16 (.int .i64 1) hH (λw hSw=>?_) (λhH=>?_)
 ·have p:=cell_of_heap hSw.1 0
  unfold runsTo
  go_simp
 try simp only[Act.put,aT,aZ,aS]
 refine tkW 4 17 (.agg c2) hH (λw hSw=>?_) (λhH=>?_)
 ·exact val_of (ld_run hSw.2.2 39 _ Tryz.underlying39 rfl (by rw[Q2.out];kernel_rfl))
 try simp only[Act.put,aT,aZ,aS]
 refine tkC 2 (λK hK=>?_)
 change Oper.wp _ ⟨some 15,_,_,_,_,_⟩ _ _ _ _
 go_simp
 refine (hr1.out w1.drew).mono ?_
 rintro e w2 ⟨rfl,hb2⟩
 have HB2:=hid (show Below w1.heap.size w1 w2 from below_of_dr hb2)
 have HS2:=hid (show w2.heap[z]?=some (.cells #[.int .i64 1] 3 (0,0))∧w2.heap[z+1]?=some (.cells c1 39 (0,0))∧w2.heap[z+2]?=some (.cells c2 39 (0,0)) from ⟨(HB2.out.block z (blk_lt HL.out)).trans HL.out,(HB2.out.block (z+1) (blk_lt HX.out)).trans HX.out,(HB2.out.block (z+2) (blk_lt HY.out)).trans HY.out⟩)
 clear hb2
 dsimp only
 refine hK.out _ _ HS2.out (λhH=>?_)
 clear hK K
 try simp only[Act.put,aT,aZ,aS]
 refine tkC 5 (λK hK=>?_)
 change Oper.wp _ ⟨some 18,_,_,_,_,_⟩ _ _ _ _
 go_simp
 refine (hr2.out w2).mono ?_
 rintro e w3 ⟨rfl,hb3⟩
 have HB3:=hid (HB2.out.trans (hb3.mono HB2.out.size))
 have HS3:=hid (show w3.heap[z]?=some (.cells #[.int .i64 1] 3 (0,0))∧w3.heap[z+1]?=some (.cells c1 39 (0,0))∧w3.heap[z+2]?=some (.cells c2 39 (0,0)) from ⟨(HB3.out.block z (blk_lt HL.out)).trans HL.out,(HB3.out.block (z+1) (blk_lt HX.out)).trans HX.out,(HB3.out.block (z+2) (blk_lt HY.out)).trans HY.out⟩)
 clear hb3
 dsimp only
 refine hK.out _ _ HS3.out (λhH=>?_)
 clear hK K
 try simp only[Act.put,aT,aZ,aS]
 refine tkC 6 (λK hK=>?_)
 change Oper.wp _ ⟨some 19,_,_,_,_,_⟩ _ _ _ _
 go_simp
 refine (hci.out w3).mono ?_
 rintro e w4 ⟨rfl,hw4⟩
 subst w4
 dsimp only
 refine hK.out _ _ HS3.out (λhH=>?_)
 clear hK K
 try simp only[Act.put,aT,aZ,aS]
 rw[HC.out]
 refine tkV 7 7 (.int .i64 v) hH (λhH=>?_)
 try simp only[Act.put,aT,aZ,aS]
 refine⟨wpAnyH_done (by kernel_rfl) ?_ _⟩
 clear hH
 have HG:=hid (HB.out.trans (HB3.out.mono HB.out.size))
 clear hr1 hr2 hci HL HX HY HB2 HS2 s1
 go_wp2_with fail
 go_ret
 exact HE.out _ HG.out
theorem ordP_22 (a b:Val) (sa sb:Value) (w:World) (ha:a.kind=2) (hb:b.kind=2) (fa:FitV a) (fb:FitV b) (hgb:GlobB w) (hgt:GlobT w) :
    Calls Tryz.prog 68 #[.int .i64 1,.agg (cellsV a sa),.agg (cellsV b sb)] w (OrdIs a b w):=by
 have hr1:=hid (λW:World=>rankP_any a sa W)
 have hr2:=hid (λW:World=>rankP_any b sb W)
 have hci:=hid (λW:World=>cmpInt_any (rankS a.kind) (rankS b.kind) W)
 have HC:=hid (show cmpI (rankS a.kind) (rankS b.kind)=0 from by rw[ha,hb];decide)
 have HV:=hid (show ordV a b=thenC (cmpD (exactT a) (exactT b)) 0 from by rw[ordV_num (.inl ha) (.inl hb),ha,hb];rfl)
 have hcn:=hid (λ(W:World) (hW:Below w.heap.size w W)=>cmpP_any a b sa sb W (.inl ha) (.inl hb) fa fb (glob_under hgb hW) (globT_under hgt hW))
 unfold CmpNIs at hcn
 obtain⟨c,Hc⟩:=name_itV (cmpD (exactT a) (exactT b))
 rw[Hc.out]at HV hcn
 clear Hc
 have hki:=hid (λW:World=>(show Calls Tryz.prog 126 #[.int .i64 2,.int .i64 2] W (λe w'=>e = .returned (.int .i64 0)∧w'=W) from cmpInt_any 2 2 W))
 unfold RankIs at hr1 hr2
 obtain⟨v,Hv⟩:=name_itV (ordV a b)
 have HE:=hid (show ∀w',Below w.heap.size w w'→OrdIs a b w (.returned (.int .i64 v)) w' from λw' hb=>⟨by rw[Hv.out],hb⟩)
 rw[Hv.out]at HV
 clear Hv
 obtain⟨r1,H1⟩:=name_itV (rankS a.kind)
 obtain⟨r2,H2⟩:=name_itV (rankS b.kind)
 rw[H1.out]at hr1
 rw[H2.out]at hr2
 rw[H1.out,H2.out]at hci HC
 clear H1 H2
 obtain⟨c1,Hc1⟩:=name6 a sa
 obtain⟨c2,Hc2⟩:=name6 b sb
 rw[Hc1.out]at hr1 ⊢
 rw[Hc2.out]at hr2 ⊢
 have Q1:=hid Hc1.size
 have Q2:=hid Hc2.size
 obtain⟨z,Hz⟩:=name_itV w.heap.size
 obtain⟨w1,HW1⟩:=name_itV (((w.alloc (.cells #[.int .i64 1] 3)).alloc (.cells c1 39)).alloc (.cells c2 39))
 have HB:=hid (show Below w.heap.size w w1 from by rw[←HW1.out];exact (two_new w _ _).alloc (by simp;omega) _)
 have HL:=hid (show w1.heap[z]?=some (.cells #[.int .i64 1] 3 (0,0)) from by rw[←HW1.out,←Hz.out];exact alloc3_0 w _ _ _)
 have HX:=hid (show w1.heap[z+1]?=some (.cells c1 39 (0,0)) from by rw[←HW1.out,←Hz.out];exact alloc3_1 w _ _ _)
 have HY:=hid (show w1.heap[z+2]?=some (.cells c2 39 (0,0)) from by rw[←HW1.out,←Hz.out];exact alloc3_2 w _ _ _)
 clear fa fb hgb hgt
 go_enter Tryz.func68,Tryz.ntmps68
 go_upto_region 1 with fail
 rw[HW1.out,Hz.out]
 clear HW1
 have s1:=hid (show w1.drew.heap[z]?=some (.cells #[.int .i64 1] 3 (0,0))∧w1.drew.heap[z+1]?=some (.cells c1 39 (0,0))∧w1.drew.heap[z+2]?=some (.cells c2 39 (0,0)) from ⟨HL.out,HX.out,HY.out⟩)
 refine wp_region_held_drew (S:=λW'=>W'.heap[z]?=some (.cells #[.int .i64 1] 3 (0,0))∧W'.heap[z+1]?=some (.cells c1 39 (0,0))∧W'.heap[z+2]?=some (.cells c2 39 (0,0))) (by kernel_rfl) s1.out (λhH=>?_)
 refine Boxed.out ?_
 refine tkW 0 13 (.int .i64 1) hH (λw hSw=>?_) (λhH=>?_)
 ·have p:=cell_of_heap hSw.1 0
  unfold runsTo
  go_simp
 try simp only[Act.put,aT,aZ,aS]
 refine tkW 1 14 (.agg c1) hH (λw hSw=>?_) (λhH=>?_)
 ·exact val_of (ld_run hSw.2.1 39 _ Tryz.underlying39 rfl (by rw[Q1.out];kernel_rfl))
 try simp only[Act.put,aT,aZ,aS]
 refine tkW 3 16 (.int .i64 1) hH (λw hSw=>?_) (λhH=>?_)
 ·have p:=cell_of_heap hSw.1 0
  unfold runsTo
  go_simp
 try simp only[Act.put,aT,aZ,aS]
 refine tkW 4 17 (.agg c2) hH (λw hSw=>?_) (λhH=>?_)
 ·exact val_of (ld_run hSw.2.2 39 _ Tryz.underlying39 rfl (by rw[Q2.out];kernel_rfl))
 try simp only[Act.put,aT,aZ,aS]
 refine tkC 2 (λK hK=>?_)
 change Oper.wp _ ⟨some 15,_,_,_,_,_⟩ _ _ _ _
 go_simp
 refine (hr1.out w1.drew).mono ?_
 rintro e w2 ⟨rfl,hb2⟩
 have HB2:=hid (show Below w1.heap.size w1 w2 from below_of_dr hb2)
 have HS2:=hid (show w2.heap[z]?=some (.cells #[.int .i64 1] 3 (0,0))∧w2.heap[z+1]?=some (.cells c1 39 (0,0))∧w2.heap[z+2]?=some (.cells c2 39 (0,0)) from ⟨(HB2.out.block z (blk_lt HL.out)).trans HL.out,(HB2.out.block (z+1) (blk_lt HX.out)).trans HX.out,(HB2.out.block (z+2) (blk_lt HY.out)).trans HY.out⟩)
 clear hb2
 dsimp only
 refine hK.out _ _ HS2.out (λhH=>?_)
 clear hK K
 try simp only[Act.put,aT,aZ,aS]
 refine tkC 5 (λK hK=>?_)
 change Oper.wp _ ⟨some 18,_,_,_,_,_⟩ _ _ _ _
 go_simp
 refine (hr2.out w2).mono ?_
 rintro e w3 ⟨rfl,hb3⟩
 have HB3:=hid (HB2.out.trans (hb3.mono HB2.out.size))
 have HS3:=hid (show w3.heap[z]?=some (.cells #[.int .i64 1] 3 (0,0))∧w3.heap[z+1]?=some (.cells c1 39 (0,0))∧w3.heap[z+2]?=some (.cells c2 39 (0,0)) from ⟨(HB3.out.block z (blk_lt HL.out)).trans HL.out,(HB3.out.block (z+1) (blk_lt HX.out)).trans HX.out,(HB3.out.block (z+2) (blk_lt HY.out)).trans HY.out⟩)
 clear hb3
 dsimp only
 refine hK.out _ _ HS3.out (λhH=>?_)
 clear hK K
 try simp only[Act.put,aT,aZ,aS]
 refine tkC 6 (λK hK=>?_)
 change Oper.wp _ ⟨some 19,_,_,_,_,_⟩ _ _ _ _
 go_simp
 refine (hci.out w3).mono ?_
 rintro e w4 ⟨rfl,hw4⟩
 subst w4
 dsimp only
 refine hK.out _ _ HS3.out (λhH=>?_)
 clear hK K
 try simp only[Act.put,aT,aZ,aS]
 rw[HC.out]
 refine tkV 7 7 (.int .i64 0) hH (λhH=>?_)
 try simp only[Act.put,aT,aZ,aS]
 refine⟨wpAnyH_done (by kernel_rfl) ?_ _⟩
 clear hH
 have HG:=hid (HB.out.trans (HB3.out.mono HB.out.size))
 clear hr1 hr2 hci HL HX HY HB2 HS2 s1
 have HS:=hid (show w3.heap[z+1]?=some (.cells (cellsV a sa) 39 (0,0))∧w3.heap[z+2]?=some (.cells (cellsV b sb) 39 (0,0)) from by rw[Hc1.out,Hc2.out];exact⟨HS3.out.2.1,HS3.out.2.2⟩)
 clear HS3 Q1 Q2 Hc1 Hc2
 have hpt:=hid (λW:World=>part_any a sa W)
 unfold PartIs at hpt
 cases a with
 | mk k1 b1 n1 t1 x1 l1=>
 cases b with
 | mk k2 b2 n2 t2 x2 l2=>
 unfold cellsV at HS hpt hcn
 simp only[Val.kind,Val.truth,Val.num,Val.text,Val.extra]at HS hpt hcn ha hb
 subst ha
 subst hb
 have hpt:=hid (λW:World=>(show Calls Tryz.prog 128 #[.agg #[.int .i64 2,.bool b1,.int .i64 n1,.string t1,.string x1,sa]] W (λe w'=>e = .returned (.iface 188 (.int .i64 n1))∧Below W.heap.size W w') from hpt.out W))
 have as_whole:=ao_whole_whole (.int .i64 n1)
 have as_broken:=ao_whole_broken (.int .i64 n1)
 have p0:w3.cell? ⟨z+1,0,none⟩=some (.int .i64 2):=cell_of_heap HS.out.1 0
 have p1:w3.cell? ⟨z+1,1,none⟩=some (.bool b1):=cell_of_heap HS.out.1 1
 have p2:w3.cell? ⟨z+1,2,none⟩=some (.int .i64 n1):=cell_of_heap HS.out.1 2
 have p3:w3.cell? ⟨z+1,3,none⟩=some (.string t1):=cell_of_heap HS.out.1 3
 have p4:w3.cell? ⟨z+1,4,none⟩=some (.string x1):=cell_of_heap HS.out.1 4
 have p5:w3.cell? ⟨z+1,5,none⟩=some sa:=cell_of_heap HS.out.1 5
 go_wp2_with fail
 refine (hpt.out _).mono ?_
 rintro e w5 ⟨rfl,hb5⟩
 clear hpt p0 p1 p2 p3 p4 p5
 have HG5:=hid (HG.out.trans (hb5.mono HG.out.size))
 have HT:=hid (show w5.heap[z+1]?=some (.cells #[.int .i64 2,.bool b1,.int .i64 n1,.string t1,.string x1,sa] 39 (0,0))∧w5.heap[z+2]?=some (.cells #[.int .i64 2,.bool b2,.int .i64 n2,.string t2,.string x2,sb] 39 (0,0)) from ⟨(hb5.block _ (blk_lt HS.out.1)).trans HS.out.1,(hb5.block _ (blk_lt HS.out.2)).trans HS.out.2⟩)
 clear hb5 HS HG HB3 HB
 have p0:w5.cell? ⟨z+1,0,none⟩=some (.int .i64 2):=cell_of_heap HT.out.1 0
 have p1:w5.cell? ⟨z+1,1,none⟩=some (.bool b1):=cell_of_heap HT.out.1 1
 have p2:w5.cell? ⟨z+1,2,none⟩=some (.int .i64 n1):=cell_of_heap HT.out.1 2
 have p3:w5.cell? ⟨z+1,3,none⟩=some (.string t1):=cell_of_heap HT.out.1 3
 have p4:w5.cell? ⟨z+1,4,none⟩=some (.string x1):=cell_of_heap HT.out.1 4
 have p5:w5.cell? ⟨z+1,5,none⟩=some sa:=cell_of_heap HT.out.1 5
 have q0:w5.cell? ⟨z+2,0,none⟩=some (.int .i64 2):=cell_of_heap HT.out.2 0
 have q1:w5.cell? ⟨z+2,1,none⟩=some (.bool b2):=cell_of_heap HT.out.2 1
 have q2:w5.cell? ⟨z+2,2,none⟩=some (.int .i64 n2):=cell_of_heap HT.out.2 2
 have q3:w5.cell? ⟨z+2,3,none⟩=some (.string t2):=cell_of_heap HT.out.2 3
 have q4:w5.cell? ⟨z+2,4,none⟩=some (.string x2):=cell_of_heap HT.out.2 4
 have q5:w5.cell? ⟨z+2,5,none⟩=some sb:=cell_of_heap HT.out.2 5
 go_wp2_with fail
 refine (hcn.out _ HG5.out).mono ?_
 rintro e w6 ⟨rfl,hb6⟩
 have HG6:=hid (HG5.out.trans (hb6.mono HG5.out.size))
 have HU:=hid (And.intro ((hb6.block _ (blk_lt HT.out.1)).trans HT.out.1) ((hb6.block _ (blk_lt HT.out.2)).trans HT.out.2))
 clear hb6 p0 p1 p2 p3 p4 p5 q0 q1 q2 q3 q4 q5 hcn
 by_cases hc:c=0
 ·subst hc
  have hv:=hid (HV.out.trans (thenC_zero _))
  clear HV
  have p0:w6.cell? ⟨z+1,0,none⟩=some (.int .i64 2):=cell_of_heap HU.out.1 0
  have p1:w6.cell? ⟨z+1,1,none⟩=some (.bool b1):=cell_of_heap HU.out.1 1
  have p2:w6.cell? ⟨z+1,2,none⟩=some (.int .i64 n1):=cell_of_heap HU.out.1 2
  have p3:w6.cell? ⟨z+1,3,none⟩=some (.string t1):=cell_of_heap HU.out.1 3
  have p4:w6.cell? ⟨z+1,4,none⟩=some (.string x1):=cell_of_heap HU.out.1 4
  have p5:w6.cell? ⟨z+1,5,none⟩=some sa:=cell_of_heap HU.out.1 5
  have q0:w6.cell? ⟨z+2,0,none⟩=some (.int .i64 2):=cell_of_heap HU.out.2 0
  have q1:w6.cell? ⟨z+2,1,none⟩=some (.bool b2):=cell_of_heap HU.out.2 1
  have q2:w6.cell? ⟨z+2,2,none⟩=some (.int .i64 n2):=cell_of_heap HU.out.2 2
  have q3:w6.cell? ⟨z+2,3,none⟩=some (.string t2):=cell_of_heap HU.out.2 3
  have q4:w6.cell? ⟨z+2,4,none⟩=some (.string x2):=cell_of_heap HU.out.2 4
  have q5:w6.cell? ⟨z+2,5,none⟩=some sb:=cell_of_heap HU.out.2 5
  go_wp2_with fail
  refine (hki.out _).mono ?_
  rintro e w7 ⟨rfl,hw7⟩
  subst w7
  go_wp2_with fail
  go_ret
  have:=HE.out _ HG6.out
  rwa [hv.out]at this
 ·have e1:(c != 0)=true:=bne_iff_ne.2 hc
  have hv:=hid (show v=c from HV.out.trans (thenC_ne hc))
  clear hc HV
  go_wp2_with fail
  go_ret
  have:=HE.out _ HG6.out
  rwa [hv.out]at this
theorem ordP_23 (a b:Val) (sa sb:Value) (w:World) (ha:a.kind=2) (hb:b.kind=3) (fa:FitV a) (fb:FitV b) (hgb:GlobB w) (hgt:GlobT w) :
    Calls Tryz.prog 68 #[.int .i64 1,.agg (cellsV a sa),.agg (cellsV b sb)] w (OrdIs a b w):=by
 have hr1:=hid (λW:World=>rankP_any a sa W)
 have hr2:=hid (λW:World=>rankP_any b sb W)
 have hci:=hid (λW:World=>cmpInt_any (rankS a.kind) (rankS b.kind) W)
 have HC:=hid (show cmpI (rankS a.kind) (rankS b.kind)=0 from by rw[ha,hb];decide)
 have HV:=hid (show ordV a b=thenC (cmpD (exactT a) (exactT b)) (-1) from by rw[ordV_num (.inl ha) (.inr hb),ha,hb];rfl)
 have hcn:=hid (λ(W:World) (hW:Below w.heap.size w W)=>cmpP_any a b sa sb W (.inl ha) (.inr hb) fa fb (glob_under hgb hW) (globT_under hgt hW))
 unfold CmpNIs at hcn
 obtain⟨c,Hc⟩:=name_itV (cmpD (exactT a) (exactT b))
 rw[Hc.out]at HV hcn
 clear Hc
 have hki:=hid (λW:World=>(show Calls Tryz.prog 126 #[.int .i64 2,.int .i64 3] W (λe w'=>e = .returned (.int .i64 (-1))∧w'=W) from cmpInt_any 2 3 W))
 unfold RankIs at hr1 hr2
 obtain⟨v,Hv⟩:=name_itV (ordV a b)
 have HE:=hid (show ∀w',Below w.heap.size w w'→OrdIs a b w (.returned (.int .i64 v)) w' from λw' hb=>⟨by rw[Hv.out],hb⟩)
 rw[Hv.out]at HV
 clear Hv
 obtain⟨r1,H1⟩:=name_itV (rankS a.kind)
 obtain⟨r2,H2⟩:=name_itV (rankS b.kind)
 rw[H1.out]at hr1
 rw[H2.out]at hr2
 rw[H1.out,H2.out]at hci HC
 clear H1 H2
 obtain⟨c1,Hc1⟩:=name6 a sa
 obtain⟨c2,Hc2⟩:=name6 b sb
 rw[Hc1.out]at hr1 ⊢
 rw[Hc2.out]at hr2 ⊢
 have Q1:=hid Hc1.size
 have Q2:=hid Hc2.size
 obtain⟨z,Hz⟩:=name_itV w.heap.size
 obtain⟨w1,HW1⟩:=name_itV (((w.alloc (.cells #[.int .i64 1] 3)).alloc (.cells c1 39)).alloc (.cells c2 39))
 have HB:=hid (show Below w.heap.size w w1 from by rw[←HW1.out];exact (two_new w _ _).alloc (by simp;omega) _)
 have HL:=hid (show w1.heap[z]?=some (.cells #[.int .i64 1] 3 (0,0)) from by rw[←HW1.out,←Hz.out];exact alloc3_0 w _ _ _)
 have HX:=hid (show w1.heap[z+1]?=some (.cells c1 39 (0,0)) from by rw[←HW1.out,←Hz.out];exact alloc3_1 w _ _ _)
 have HY:=hid (show w1.heap[z+2]?=some (.cells c2 39 (0,0)) from by rw[←HW1.out,←Hz.out];exact alloc3_2 w _ _ _)
 clear fa fb hgb hgt
 go_enter Tryz.func68,Tryz.ntmps68
 go_upto_region 1 with fail
 rw[HW1.out,Hz.out]
 clear HW1
 have s1:=hid (show w1.drew.heap[z]?=some (.cells #[.int .i64 1] 3 (0,0))∧w1.drew.heap[z+1]?=some (.cells c1 39 (0,0))∧w1.drew.heap[z+2]?=some (.cells c2 39 (0,0)) from ⟨HL.out,HX.out,HY.out⟩)
 refine wp_region_held_drew (S:=λW'=>W'.heap[z]?=some (.cells #[.int .i64 1] 3 (0,0))∧W'.heap[z+1]?=some (.cells c1 39 (0,0))∧W'.heap[z+2]?=some (.cells c2 39 (0,0))) (by kernel_rfl) s1.out (λhH=>?_)
 refine Boxed.out ?_
 refine tkW 0 13 (.int .i64 1) hH (λw hSw=>?_) (λhH=>?_)
 ·have p:=cell_of_heap hSw.1 0
  unfold runsTo
  go_simp
 try simp only[Act.put,aT,aZ,aS]
 refine tkW 1 14 (.agg c1) hH (λw hSw=>?_) (λhH=>?_)
 ·exact val_of (ld_run hSw.2.1 39 _ Tryz.underlying39 rfl (by rw[Q1.out];kernel_rfl))
 try simp only[Act.put,aT,aZ,aS]
 refine tkW 3 16 (.int .i64 1) hH (λw hSw=>?_) (λhH=>?_)
 ·have p:=cell_of_heap hSw.1 0
  unfold runsTo
  go_simp
 try simp only[Act.put,aT,aZ,aS]
 refine tkW 4 17 (.agg c2) hH (λw hSw=>?_) (λhH=>?_)
 ·exact val_of (ld_run hSw.2.2 39 _ Tryz.underlying39 rfl (by rw[Q2.out];kernel_rfl))
 try simp only[Act.put,aT,aZ,aS]
 refine tkC 2 (λK hK=>?_)
 change Oper.wp _ ⟨some 15,_,_,_,_,_⟩ _ _ _ _
 go_simp
 refine (hr1.out w1.drew).mono ?_
 rintro e w2 ⟨rfl,hb2⟩
 have HB2:=hid (show Below w1.heap.size w1 w2 from below_of_dr hb2)
 have HS2:=hid (show w2.heap[z]?=some (.cells #[.int .i64 1] 3 (0,0))∧w2.heap[z+1]?=some (.cells c1 39 (0,0))∧w2.heap[z+2]?=some (.cells c2 39 (0,0)) from ⟨(HB2.out.block z (blk_lt HL.out)).trans HL.out,(HB2.out.block (z+1) (blk_lt HX.out)).trans HX.out,(HB2.out.block (z+2) (blk_lt HY.out)).trans HY.out⟩)
 clear hb2
 dsimp only
 refine hK.out _ _ HS2.out (λhH=>?_)
 clear hK K
 try simp only[Act.put,aT,aZ,aS]
 refine tkC 5 (λK hK=>?_)
 change Oper.wp _ ⟨some 18,_,_,_,_,_⟩ _ _ _ _
 go_simp
 refine (hr2.out w2).mono ?_
 rintro e w3 ⟨rfl,hb3⟩
 have HB3:=hid (HB2.out.trans (hb3.mono HB2.out.size))
 have HS3:=hid (show w3.heap[z]?=some (.cells #[.int .i64 1] 3 (0,0))∧w3.heap[z+1]?=some (.cells c1 39 (0,0))∧w3.heap[z+2]?=some (.cells c2 39 (0,0)) from ⟨(HB3.out.block z (blk_lt HL.out)).trans HL.out,(HB3.out.block (z+1) (blk_lt HX.out)).trans HX.out,(HB3.out.block (z+2) (blk_lt HY.out)).trans HY.out⟩)
 clear hb3
 dsimp only
 refine hK.out _ _ HS3.out (λhH=>?_)
 clear hK K
 try simp only[Act.put,aT,aZ,aS]
 refine tkC 6 (λK hK=>?_)
 change Oper.wp _ ⟨some 19,_,_,_,_,_⟩ _ _ _ _
 go_simp
 refine (hci.out w3).mono ?_
 rintro e w4 ⟨rfl,hw4⟩
 subst w4
 dsimp only
 refine hK.out _ _ HS3.out (λhH=>?_)
 clear hK K
 try simp only[Act.put,aT,aZ,aS]
 rw[HC.out]
 refine tkV 7 7 (.int .i64 0) hH (λhH=>?_)
 try simp only[Act.put,aT,aZ,aS]
 refine⟨wpAnyH_done (by kernel_rfl) ?_ _⟩
 clear hH
 have HG:=hid (HB.out.trans (HB3.out.mono HB.out.size))
 clear hr1 hr2 hci HL HX HY HB2 HS2 s1
 have HS:=hid (show w3.heap[z+1]?=some (.cells (cellsV a sa) 39 (0,0))∧w3.heap[z+2]?=some (.cells (cellsV b sb) 39 (0,0)) from by rw[Hc1.out,Hc2.out];exact⟨HS3.out.2.1,HS3.out.2.2⟩)
 clear HS3 Q1 Q2 Hc1 Hc2
 have hpt:=hid (λW:World=>part_any a sa W)
 unfold PartIs at hpt
 cases a with
 | mk k1 b1 n1 t1 x1 l1=>
 cases b with
 | mk k2 b2 n2 t2 x2 l2=>
 unfold cellsV at HS hpt hcn
 simp only[Val.kind,Val.truth,Val.num,Val.text,Val.extra]at HS hpt hcn ha hb
 subst ha
 subst hb
 have hpt:=hid (λW:World=>(show Calls Tryz.prog 128 #[.agg #[.int .i64 2,.bool b1,.int .i64 n1,.string t1,.string x1,sa]] W (λe w'=>e = .returned (.iface 188 (.int .i64 n1))∧Below W.heap.size W w') from hpt.out W))
 have as_whole:=ao_whole_whole (.int .i64 n1)
 have as_broken:=ao_whole_broken (.int .i64 n1)
 have p0:w3.cell? ⟨z+1,0,none⟩=some (.int .i64 2):=cell_of_heap HS.out.1 0
 have p1:w3.cell? ⟨z+1,1,none⟩=some (.bool b1):=cell_of_heap HS.out.1 1
 have p2:w3.cell? ⟨z+1,2,none⟩=some (.int .i64 n1):=cell_of_heap HS.out.1 2
 have p3:w3.cell? ⟨z+1,3,none⟩=some (.string t1):=cell_of_heap HS.out.1 3
 have p4:w3.cell? ⟨z+1,4,none⟩=some (.string x1):=cell_of_heap HS.out.1 4
 have p5:w3.cell? ⟨z+1,5,none⟩=some sa:=cell_of_heap HS.out.1 5
 go_wp2_with fail
 refine (hpt.out _).mono ?_
 rintro e w5 ⟨rfl,hb5⟩
 clear hpt p0 p1 p2 p3 p4 p5
 have HG5:=hid (HG.out.trans (hb5.mono HG.out.size))
 have HT:=hid (show w5.heap[z+1]?=some (.cells #[.int .i64 2,.bool b1,.int .i64 n1,.string t1,.string x1,sa] 39 (0,0))∧w5.heap[z+2]?=some (.cells #[.int .i64 3,.bool b2,.int .i64 n2,.string t2,.string x2,sb] 39 (0,0)) from ⟨(hb5.block _ (blk_lt HS.out.1)).trans HS.out.1,(hb5.block _ (blk_lt HS.out.2)).trans HS.out.2⟩)
 clear hb5 HS HG HB3 HB
 have p0:w5.cell? ⟨z+1,0,none⟩=some (.int .i64 2):=cell_of_heap HT.out.1 0
 have p1:w5.cell? ⟨z+1,1,none⟩=some (.bool b1):=cell_of_heap HT.out.1 1
 have p2:w5.cell? ⟨z+1,2,none⟩=some (.int .i64 n1):=cell_of_heap HT.out.1 2
 have p3:w5.cell? ⟨z+1,3,none⟩=some (.string t1):=cell_of_heap HT.out.1 3
 have p4:w5.cell? ⟨z+1,4,none⟩=some (.string x1):=cell_of_heap HT.out.1 4
 have p5:w5.cell? ⟨z+1,5,none⟩=some sa:=cell_of_heap HT.out.1 5
 have q0:w5.cell? ⟨z+2,0,none⟩=some (.int .i64 3):=cell_of_heap HT.out.2 0
 have q1:w5.cell? ⟨z+2,1,none⟩=some (.bool b2):=cell_of_heap HT.out.2 1
 have q2:w5.cell? ⟨z+2,2,none⟩=some (.int .i64 n2):=cell_of_heap HT.out.2 2
 have q3:w5.cell? ⟨z+2,3,none⟩=some (.string t2):=cell_of_heap HT.out.2 3
 have q4:w5.cell? ⟨z+2,4,none⟩=some (.string x2):=cell_of_heap HT.out.2 4
 have q5:w5.cell? ⟨z+2,5,none⟩=some sb:=cell_of_heap HT.out.2 5
 go_wp2_with fail
 refine (hcn.out _ HG5.out).mono ?_
 rintro e w6 ⟨rfl,hb6⟩
 have HG6:=hid (HG5.out.trans (hb6.mono HG5.out.size))
 have HU:=hid (And.intro ((hb6.block _ (blk_lt HT.out.1)).trans HT.out.1) ((hb6.block _ (blk_lt HT.out.2)).trans HT.out.2))
 clear hb6 p0 p1 p2 p3 p4 p5 q0 q1 q2 q3 q4 q5 hcn
 by_cases hc:c=0
 ·subst hc
  have hv:=hid (HV.out.trans (thenC_zero _))
  clear HV
  have p0:w6.cell? ⟨z+1,0,none⟩=some (.int .i64 2):=cell_of_heap HU.out.1 0
  have p1:w6.cell? ⟨z+1,1,none⟩=some (.bool b1):=cell_of_heap HU.out.1 1
  have p2:w6.cell? ⟨z+1,2,none⟩=some (.int .i64 n1):=cell_of_heap HU.out.1 2
  have p3:w6.cell? ⟨z+1,3,none⟩=some (.string t1):=cell_of_heap HU.out.1 3
  have p4:w6.cell? ⟨z+1,4,none⟩=some (.string x1):=cell_of_heap HU.out.1 4
  have p5:w6.cell? ⟨z+1,5,none⟩=some sa:=cell_of_heap HU.out.1 5
  have q0:w6.cell? ⟨z+2,0,none⟩=some (.int .i64 3):=cell_of_heap HU.out.2 0
  have q1:w6.cell? ⟨z+2,1,none⟩=some (.bool b2):=cell_of_heap HU.out.2 1
  have q2:w6.cell? ⟨z+2,2,none⟩=some (.int .i64 n2):=cell_of_heap HU.out.2 2
  have q3:w6.cell? ⟨z+2,3,none⟩=some (.string t2):=cell_of_heap HU.out.2 3
  have q4:w6.cell? ⟨z+2,4,none⟩=some (.string x2):=cell_of_heap HU.out.2 4
  have q5:w6.cell? ⟨z+2,5,none⟩=some sb:=cell_of_heap HU.out.2 5
  go_wp2_with fail
  refine (hki.out _).mono ?_
  rintro e w7 ⟨rfl,hw7⟩
  subst w7
  go_wp2_with fail
  go_ret
  have:=HE.out _ HG6.out
  rwa [hv.out]at this
 ·have e1:(c != 0)=true:=bne_iff_ne.2 hc
  have hv:=hid (show v=c from HV.out.trans (thenC_ne hc))
  clear hc HV
  go_wp2_with fail
  go_ret
  have:=HE.out _ HG6.out
  rwa [hv.out]at this
theorem ordP_32 (a b:Val) (sa sb:Value) (w:World) (ha:a.kind=3) (hb:b.kind=2) (fa:FitV a) (fb:FitV b) (hgb:GlobB w) (hgt:GlobT w) :
    Calls Tryz.prog 68 #[.int .i64 1,.agg (cellsV a sa),.agg (cellsV b sb)] w (OrdIs a b w):=by
 have hr1:=hid (λW:World=>rankP_any a sa W)
 have hr2:=hid (λW:World=>rankP_any b sb W)
 have hci:=hid (λW:World=>cmpInt_any (rankS a.kind) (rankS b.kind) W)
 have HC:=hid (show cmpI (rankS a.kind) (rankS b.kind)=0 from by rw[ha,hb];decide)
 have HV:=hid (show ordV a b=thenC (cmpD (exactT a) (exactT b)) 1 from by rw[ordV_num (.inr ha) (.inl hb),ha,hb];rfl)
 have hcn:=hid (λ(W:World) (hW:Below w.heap.size w W)=>cmpP_any a b sa sb W (.inr ha) (.inl hb) fa fb (glob_under hgb hW) (globT_under hgt hW))
 unfold CmpNIs at hcn
 obtain⟨c,Hc⟩:=name_itV (cmpD (exactT a) (exactT b))
 rw[Hc.out]at HV hcn
 clear Hc
 have hki:=hid (λW:World=>(show Calls Tryz.prog 126 #[.int .i64 3,.int .i64 2] W (λe w'=>e = .returned (.int .i64 1)∧w'=W) from cmpInt_any 3 2 W))
 unfold RankIs at hr1 hr2
 obtain⟨v,Hv⟩:=name_itV (ordV a b)
 have HE:=hid (show ∀w',Below w.heap.size w w'→OrdIs a b w (.returned (.int .i64 v)) w' from λw' hb=>⟨by rw[Hv.out],hb⟩)
 rw[Hv.out]at HV
 clear Hv
 obtain⟨r1,H1⟩:=name_itV (rankS a.kind)
 obtain⟨r2,H2⟩:=name_itV (rankS b.kind)
 rw[H1.out]at hr1
 rw[H2.out]at hr2
 rw[H1.out,H2.out]at hci HC
 clear H1 H2
 obtain⟨c1,Hc1⟩:=name6 a sa
 obtain⟨c2,Hc2⟩:=name6 b sb
 rw[Hc1.out]at hr1 ⊢
 rw[Hc2.out]at hr2 ⊢
 have Q1:=hid Hc1.size
 have Q2:=hid Hc2.size
 obtain⟨z,Hz⟩:=name_itV w.heap.size
 obtain⟨w1,HW1⟩:=name_itV (((w.alloc (.cells #[.int .i64 1] 3)).alloc (.cells c1 39)).alloc (.cells c2 39))
 have HB:=hid (show Below w.heap.size w w1 from by rw[←HW1.out];exact (two_new w _ _).alloc (by simp;omega) _)
 have HL:=hid (show w1.heap[z]?=some (.cells #[.int .i64 1] 3 (0,0)) from by rw[←HW1.out,←Hz.out];exact alloc3_0 w _ _ _)
 have HX:=hid (show w1.heap[z+1]?=some (.cells c1 39 (0,0)) from by rw[←HW1.out,←Hz.out];exact alloc3_1 w _ _ _)
 have HY:=hid (show w1.heap[z+2]?=some (.cells c2 39 (0,0)) from by rw[←HW1.out,←Hz.out];exact alloc3_2 w _ _ _)
 clear fa fb hgb hgt
 go_enter Tryz.func68,Tryz.ntmps68
 go_upto_region 1 with fail
 rw[HW1.out,Hz.out]
 clear HW1
 have s1:=hid (show w1.drew.heap[z]?=some (.cells #[.int .i64 1] 3 (0,0))∧w1.drew.heap[z+1]?=some (.cells c1 39 (0,0))∧w1.drew.heap[z+2]?=some (.cells c2 39 (0,0)) from ⟨HL.out,HX.out,HY.out⟩)
 refine wp_region_held_drew (S:=λW'=>W'.heap[z]?=some (.cells #[.int .i64 1] 3 (0,0))∧W'.heap[z+1]?=some (.cells c1 39 (0,0))∧W'.heap[z+2]?=some (.cells c2 39 (0,0))) (by kernel_rfl) s1.out (λhH=>?_)
 refine Boxed.out ?_
 refine tkW 0 13 (.int .i64 1) hH (λw hSw=>?_) (λhH=>?_)
 ·have p:=cell_of_heap hSw.1 0
  unfold runsTo
  go_simp
 try simp only[Act.put,aT,aZ,aS]
 refine tkW 1 14 (.agg c1) hH (λw hSw=>?_) (λhH=>?_)
 ·exact val_of (ld_run hSw.2.1 39 _ Tryz.underlying39 rfl (by rw[Q1.out];kernel_rfl))
 try simp only[Act.put,aT,aZ,aS]
 refine tkW 3 16 (.int .i64 1) hH (λw hSw=>?_) (λhH=>?_)
 ·have p:=cell_of_heap hSw.1 0
  unfold runsTo
  go_simp
 try simp only[Act.put,aT,aZ,aS]
 refine tkW 4 17 (.agg c2) hH (λw hSw=>?_) (λhH=>?_)
 ·exact val_of (ld_run hSw.2.2 39 _ Tryz.underlying39 rfl (by rw[Q2.out];kernel_rfl))
 try simp only[Act.put,aT,aZ,aS]
 refine tkC 2 (λK hK=>?_)
 change Oper.wp _ ⟨some 15,_,_,_,_,_⟩ _ _ _ _
 go_simp
 refine (hr1.out w1.drew).mono ?_
 rintro e w2 ⟨rfl,hb2⟩
 have HB2:=hid (show Below w1.heap.size w1 w2 from below_of_dr hb2)
 have HS2:=hid (show w2.heap[z]?=some (.cells #[.int .i64 1] 3 (0,0))∧w2.heap[z+1]?=some (.cells c1 39 (0,0))∧w2.heap[z+2]?=some (.cells c2 39 (0,0)) from ⟨(HB2.out.block z (blk_lt HL.out)).trans HL.out,(HB2.out.block (z+1) (blk_lt HX.out)).trans HX.out,(HB2.out.block (z+2) (blk_lt HY.out)).trans HY.out⟩)
 clear hb2
 dsimp only
 refine hK.out _ _ HS2.out (λhH=>?_)
 clear hK K
 try simp only[Act.put,aT,aZ,aS]
 refine tkC 5 (λK hK=>?_)
 change Oper.wp _ ⟨some 18,_,_,_,_,_⟩ _ _ _ _
 go_simp
 refine (hr2.out w2).mono ?_
 rintro e w3 ⟨rfl,hb3⟩
 have HB3:=hid (HB2.out.trans (hb3.mono HB2.out.size))
 have HS3:=hid (show w3.heap[z]?=some (.cells #[.int .i64 1] 3 (0,0))∧w3.heap[z+1]?=some (.cells c1 39 (0,0))∧w3.heap[z+2]?=some (.cells c2 39 (0,0)) from ⟨(HB3.out.block z (blk_lt HL.out)).trans HL.out,(HB3.out.block (z+1) (blk_lt HX.out)).trans HX.out,(HB3.out.block (z+2) (blk_lt HY.out)).trans HY.out⟩)
 clear hb3
 dsimp only
 refine hK.out _ _ HS3.out (λhH=>?_)
 clear hK K
 try simp only[Act.put,aT,aZ,aS]
 refine tkC 6 (λK hK=>?_)
 change Oper.wp _ ⟨some 19,_,_,_,_,_⟩ _ _ _ _
 go_simp
 refine (hci.out w3).mono ?_
 rintro e w4 ⟨rfl,hw4⟩
 subst w4
 dsimp only
 refine hK.out _ _ HS3.out (λhH=>?_)
 clear hK K
 try simp only[Act.put,aT,aZ,aS]
 rw[HC.out]
 refine tkV 7 7 (.int .i64 0) hH (λhH=>?_)
 try simp only[Act.put,aT,aZ,aS]
 refine⟨wpAnyH_done (by kernel_rfl) ?_ _⟩
 clear hH
 have HG:=hid (HB.out.trans (HB3.out.mono HB.out.size))
 clear hr1 hr2 hci HL HX HY HB2 HS2 s1
 have HS:=hid (show w3.heap[z+1]?=some (.cells (cellsV a sa) 39 (0,0))∧w3.heap[z+2]?=some (.cells (cellsV b sb) 39 (0,0)) from by rw[Hc1.out,Hc2.out];exact⟨HS3.out.2.1,HS3.out.2.2⟩)
 clear HS3 Q1 Q2 Hc1 Hc2
 have hpt:=hid (λW:World=>part_any a sa W)
 unfold PartIs at hpt
 cases a with
 | mk k1 b1 n1 t1 x1 l1=>
 cases b with
 | mk k2 b2 n2 t2 x2 l2=>
 unfold cellsV at HS hpt hcn
 simp only[Val.kind,Val.truth,Val.num,Val.text,Val.extra]at HS hpt hcn ha hb
 subst ha
 subst hb
 have hpt:=hid (λW:World=>(show Calls Tryz.prog 128 #[.agg #[.int .i64 3,.bool b1,.int .i64 n1,.string t1,.string x1,sa]] W (λe w'=>e = .returned (.iface 189 (.string t1))∧Below W.heap.size W w') from hpt.out W))
 have as_whole:=ao_broken_whole (.string t1)
 have as_broken:=ao_broken_broken (.string t1)
 have p0:w3.cell? ⟨z+1,0,none⟩=some (.int .i64 3):=cell_of_heap HS.out.1 0
 have p1:w3.cell? ⟨z+1,1,none⟩=some (.bool b1):=cell_of_heap HS.out.1 1
 have p2:w3.cell? ⟨z+1,2,none⟩=some (.int .i64 n1):=cell_of_heap HS.out.1 2
 have p3:w3.cell? ⟨z+1,3,none⟩=some (.string t1):=cell_of_heap HS.out.1 3
 have p4:w3.cell? ⟨z+1,4,none⟩=some (.string x1):=cell_of_heap HS.out.1 4
 have p5:w3.cell? ⟨z+1,5,none⟩=some sa:=cell_of_heap HS.out.1 5
 go_wp2_with fail
 refine (hpt.out _).mono ?_
 rintro e w5 ⟨rfl,hb5⟩
 clear hpt p0 p1 p2 p3 p4 p5
 have HG5:=hid (HG.out.trans (hb5.mono HG.out.size))
 have HT:=hid (show w5.heap[z+1]?=some (.cells #[.int .i64 3,.bool b1,.int .i64 n1,.string t1,.string x1,sa] 39 (0,0))∧w5.heap[z+2]?=some (.cells #[.int .i64 2,.bool b2,.int .i64 n2,.string t2,.string x2,sb] 39 (0,0)) from ⟨(hb5.block _ (blk_lt HS.out.1)).trans HS.out.1,(hb5.block _ (blk_lt HS.out.2)).trans HS.out.2⟩)
 clear hb5 HS HG HB3 HB
 have p0:w5.cell? ⟨z+1,0,none⟩=some (.int .i64 3):=cell_of_heap HT.out.1 0
 have p1:w5.cell? ⟨z+1,1,none⟩=some (.bool b1):=cell_of_heap HT.out.1 1
 have p2:w5.cell? ⟨z+1,2,none⟩=some (.int .i64 n1):=cell_of_heap HT.out.1 2
 have p3:w5.cell? ⟨z+1,3,none⟩=some (.string t1):=cell_of_heap HT.out.1 3
 have p4:w5.cell? ⟨z+1,4,none⟩=some (.string x1):=cell_of_heap HT.out.1 4
 have p5:w5.cell? ⟨z+1,5,none⟩=some sa:=cell_of_heap HT.out.1 5
 have q0:w5.cell? ⟨z+2,0,none⟩=some (.int .i64 2):=cell_of_heap HT.out.2 0
 have q1:w5.cell? ⟨z+2,1,none⟩=some (.bool b2):=cell_of_heap HT.out.2 1
 have q2:w5.cell? ⟨z+2,2,none⟩=some (.int .i64 n2):=cell_of_heap HT.out.2 2
 have q3:w5.cell? ⟨z+2,3,none⟩=some (.string t2):=cell_of_heap HT.out.2 3
 have q4:w5.cell? ⟨z+2,4,none⟩=some (.string x2):=cell_of_heap HT.out.2 4
 have q5:w5.cell? ⟨z+2,5,none⟩=some sb:=cell_of_heap HT.out.2 5
 go_wp2_with fail
 refine (hcn.out _ HG5.out).mono ?_
 rintro e w6 ⟨rfl,hb6⟩
 have HG6:=hid (HG5.out.trans (hb6.mono HG5.out.size))
 have HU:=hid (And.intro ((hb6.block _ (blk_lt HT.out.1)).trans HT.out.1) ((hb6.block _ (blk_lt HT.out.2)).trans HT.out.2))
 clear hb6 p0 p1 p2 p3 p4 p5 q0 q1 q2 q3 q4 q5 hcn
 by_cases hc:c=0
 ·subst hc
  have hv:=hid (HV.out.trans (thenC_zero _))
  clear HV
  have p0:w6.cell? ⟨z+1,0,none⟩=some (.int .i64 3):=cell_of_heap HU.out.1 0
  have p1:w6.cell? ⟨z+1,1,none⟩=some (.bool b1):=cell_of_heap HU.out.1 1
  have p2:w6.cell? ⟨z+1,2,none⟩=some (.int .i64 n1):=cell_of_heap HU.out.1 2
  have p3:w6.cell? ⟨z+1,3,none⟩=some (.string t1):=cell_of_heap HU.out.1 3
  have p4:w6.cell? ⟨z+1,4,none⟩=some (.string x1):=cell_of_heap HU.out.1 4
  have p5:w6.cell? ⟨z+1,5,none⟩=some sa:=cell_of_heap HU.out.1 5
  have q0:w6.cell? ⟨z+2,0,none⟩=some (.int .i64 2):=cell_of_heap HU.out.2 0
  have q1:w6.cell? ⟨z+2,1,none⟩=some (.bool b2):=cell_of_heap HU.out.2 1
  have q2:w6.cell? ⟨z+2,2,none⟩=some (.int .i64 n2):=cell_of_heap HU.out.2 2
  have q3:w6.cell? ⟨z+2,3,none⟩=some (.string t2):=cell_of_heap HU.out.2 3
  have q4:w6.cell? ⟨z+2,4,none⟩=some (.string x2):=cell_of_heap HU.out.2 4
  have q5:w6.cell? ⟨z+2,5,none⟩=some sb:=cell_of_heap HU.out.2 5
  go_wp2_with fail
  refine (hki.out _).mono ?_
  rintro e w7 ⟨rfl,hw7⟩
  subst w7
  go_wp2_with fail
  go_ret
  have:=HE.out _ HG6.out
  rwa [hv.out]at this
 ·have e1:(c != 0)=true:=bne_iff_ne.2 hc
  have hv:=hid (show v=c from HV.out.trans (thenC_ne hc))
  clear hc HV
  go_wp2_with fail
  go_ret
  have:=HE.out _ HG6.out
  rwa [hv.out]at this
theorem ordP_33 (a b:Val) (sa sb:Value) (w:World) (ha:a.kind=3) (hb:b.kind=3) (fa:FitV a) (fb:FitV b) (hgb:GlobB w) (hgt:GlobT w) :
    Calls Tryz.prog 68 #[.int .i64 1,.agg (cellsV a sa),.agg (cellsV b sb)] w (OrdIs a b w):=by
 have hr1:=hid (λW:World=>rankP_any a sa W)
 have hr2:=hid (λW:World=>rankP_any b sb W)
 have hci:=hid (λW:World=>cmpInt_any (rankS a.kind) (rankS b.kind) W)
 have HC:=hid (show cmpI (rankS a.kind) (rankS b.kind)=0 from by rw[ha,hb];decide)
 have HV:=hid (show ordV a b=thenC (cmpD (exactT a) (exactT b)) (cmpS a.text.data.toList b.text.data.toList) from by rw[ordV_num (.inr ha) (.inr hb),ha,hb];rfl)
 have hcn:=hid (λ(W:World) (hW:Below w.heap.size w W)=>cmpP_any a b sa sb W (.inr ha) (.inr hb) fa fb (glob_under hgb hW) (globT_under hgt hW))
 unfold CmpNIs at hcn
 obtain⟨c,Hc⟩:=name_itV (cmpD (exactT a) (exactT b))
 rw[Hc.out]at HV hcn
 clear Hc
 have hst:=hid (λW:World=>cmpStr_any a.text b.text W)
 obtain⟨u,Hu⟩:=name_itV (cmpS a.text.data.toList b.text.data.toList)
 rw[Hu.out]at HV hst
 clear Hu
 unfold RankIs at hr1 hr2
 obtain⟨v,Hv⟩:=name_itV (ordV a b)
 have HE:=hid (show ∀w',Below w.heap.size w w'→OrdIs a b w (.returned (.int .i64 v)) w' from λw' hb=>⟨by rw[Hv.out],hb⟩)
 rw[Hv.out]at HV
 clear Hv
 obtain⟨r1,H1⟩:=name_itV (rankS a.kind)
 obtain⟨r2,H2⟩:=name_itV (rankS b.kind)
 rw[H1.out]at hr1
 rw[H2.out]at hr2
 rw[H1.out,H2.out]at hci HC
 clear H1 H2
 obtain⟨c1,Hc1⟩:=name6 a sa
 obtain⟨c2,Hc2⟩:=name6 b sb
 rw[Hc1.out]at hr1 ⊢
 rw[Hc2.out]at hr2 ⊢
 have Q1:=hid Hc1.size
 have Q2:=hid Hc2.size
 obtain⟨z,Hz⟩:=name_itV w.heap.size
 obtain⟨w1,HW1⟩:=name_itV (((w.alloc (.cells #[.int .i64 1] 3)).alloc (.cells c1 39)).alloc (.cells c2 39))
 have HB:=hid (show Below w.heap.size w w1 from by rw[←HW1.out];exact (two_new w _ _).alloc (by simp;omega) _)
 have HL:=hid (show w1.heap[z]?=some (.cells #[.int .i64 1] 3 (0,0)) from by rw[←HW1.out,←Hz.out];exact alloc3_0 w _ _ _)
 have HX:=hid (show w1.heap[z+1]?=some (.cells c1 39 (0,0)) from by rw[←HW1.out,←Hz.out];exact alloc3_1 w _ _ _)
 have HY:=hid (show w1.heap[z+2]?=some (.cells c2 39 (0,0)) from by rw[←HW1.out,←Hz.out];exact alloc3_2 w _ _ _)
 clear fa fb hgb hgt
 go_enter Tryz.func68,Tryz.ntmps68
 go_upto_region 1 with fail
 rw[HW1.out,Hz.out]
 clear HW1
 have s1:=hid (show w1.drew.heap[z]?=some (.cells #[.int .i64 1] 3 (0,0))∧w1.drew.heap[z+1]?=some (.cells c1 39 (0,0))∧w1.drew.heap[z+2]?=some (.cells c2 39 (0,0)) from ⟨HL.out,HX.out,HY.out⟩)
 refine wp_region_held_drew (S:=λW'=>W'.heap[z]?=some (.cells #[.int .i64 1] 3 (0,0))∧W'.heap[z+1]?=some (.cells c1 39 (0,0))∧W'.heap[z+2]?=some (.cells c2 39 (0,0))) (by kernel_rfl) s1.out (λhH=>?_)
 refine Boxed.out ?_
 refine tkW 0 13 (.int .i64 1) hH (λw hSw=>?_) (λhH=>?_)
 ·have p:=cell_of_heap hSw.1 0
  unfold runsTo
  go_simp
 try simp only[Act.put,aT,aZ,aS]
 refine tkW 1 14 (.agg c1) hH (λw hSw=>?_) (λhH=>?_)
 ·exact val_of (ld_run hSw.2.1 39 _ Tryz.underlying39 rfl (by rw[Q1.out];kernel_rfl))
 try simp only[Act.put,aT,aZ,aS]
 refine tkW 3 16 (.int .i64 1) hH (λw hSw=>?_) (λhH=>?_)
 ·have p:=cell_of_heap hSw.1 0
  unfold runsTo
  go_simp
 try simp only[Act.put,aT,aZ,aS]
 refine tkW 4 17 (.agg c2) hH (λw hSw=>?_) (λhH=>?_)
 ·exact val_of (ld_run hSw.2.2 39 _ Tryz.underlying39 rfl (by rw[Q2.out];kernel_rfl))
 try simp only[Act.put,aT,aZ,aS]
 refine tkC 2 (λK hK=>?_)
 change Oper.wp _ ⟨some 15,_,_,_,_,_⟩ _ _ _ _
 go_simp
 refine (hr1.out w1.drew).mono ?_
 rintro e w2 ⟨rfl,hb2⟩
 have HB2:=hid (show Below w1.heap.size w1 w2 from below_of_dr hb2)
 have HS2:=hid (show w2.heap[z]?=some (.cells #[.int .i64 1] 3 (0,0))∧w2.heap[z+1]?=some (.cells c1 39 (0,0))∧w2.heap[z+2]?=some (.cells c2 39 (0,0)) from ⟨(HB2.out.block z (blk_lt HL.out)).trans HL.out,(HB2.out.block (z+1) (blk_lt HX.out)).trans HX.out,(HB2.out.block (z+2) (blk_lt HY.out)).trans HY.out⟩)
 clear hb2
 dsimp only
 refine hK.out _ _ HS2.out (λhH=>?_)
 clear hK K
 try simp only[Act.put,aT,aZ,aS]
 refine tkC 5 (λK hK=>?_)
 change Oper.wp _ ⟨some 18,_,_,_,_,_⟩ _ _ _ _
 go_simp
 refine (hr2.out w2).mono ?_
 rintro e w3 ⟨rfl,hb3⟩
 have HB3:=hid (HB2.out.trans (hb3.mono HB2.out.size))
 have HS3:=hid (show w3.heap[z]?=some (.cells #[.int .i64 1] 3 (0,0))∧w3.heap[z+1]?=some (.cells c1 39 (0,0))∧w3.heap[z+2]?=some (.cells c2 39 (0,0)) from ⟨(HB3.out.block z (blk_lt HL.out)).trans HL.out,(HB3.out.block (z+1) (blk_lt HX.out)).trans HX.out,(HB3.out.block (z+2) (blk_lt HY.out)).trans HY.out⟩)
 clear hb3
 dsimp only
 refine hK.out _ _ HS3.out (λhH=>?_)
 clear hK K
 try simp only[Act.put,aT,aZ,aS]
 refine tkC 6 (λK hK=>?_)
 change Oper.wp _ ⟨some 19,_,_,_,_,_⟩ _ _ _ _
 go_simp
 refine (hci.out w3).mono ?_
 rintro e w4 ⟨rfl,hw4⟩
 subst w4
 dsimp only
 refine hK.out _ _ HS3.out (λhH=>?_)
 clear hK K
 try simp only[Act.put,aT,aZ,aS]
 rw[HC.out]
 refine tkV 7 7 (.int .i64 0) hH (λhH=>?_)
 try simp only[Act.put,aT,aZ,aS]
 refine⟨wpAnyH_done (by kernel_rfl) ?_ _⟩
 clear hH
 have HG:=hid (HB.out.trans (HB3.out.mono HB.out.size))
 clear hr1 hr2 hci HL HX HY HB2 HS2 s1
 have HS:=hid (show w3.heap[z+1]?=some (.cells (cellsV a sa) 39 (0,0))∧w3.heap[z+2]?=some (.cells (cellsV b sb) 39 (0,0)) from by rw[Hc1.out,Hc2.out];exact⟨HS3.out.2.1,HS3.out.2.2⟩)
 clear HS3 Q1 Q2 Hc1 Hc2
 have hpt:=hid (λW:World=>part_any a sa W)
 unfold PartIs at hpt
 cases a with
 | mk k1 b1 n1 t1 x1 l1=>
 cases b with
 | mk k2 b2 n2 t2 x2 l2=>
 unfold cellsV at HS hpt hcn
 simp only[Val.kind,Val.truth,Val.num,Val.text,Val.extra]at HS hpt hcn hst ha hb
 subst ha
 subst hb
 have hpt:=hid (λW:World=>(show Calls Tryz.prog 128 #[.agg #[.int .i64 3,.bool b1,.int .i64 n1,.string t1,.string x1,sa]] W (λe w'=>e = .returned (.iface 189 (.string t1))∧Below W.heap.size W w') from hpt.out W))
 have as_whole:=ao_broken_whole (.string t1)
 have as_broken:=ao_broken_broken (.string t1)
 have p0:w3.cell? ⟨z+1,0,none⟩=some (.int .i64 3):=cell_of_heap HS.out.1 0
 have p1:w3.cell? ⟨z+1,1,none⟩=some (.bool b1):=cell_of_heap HS.out.1 1
 have p2:w3.cell? ⟨z+1,2,none⟩=some (.int .i64 n1):=cell_of_heap HS.out.1 2
 have p3:w3.cell? ⟨z+1,3,none⟩=some (.string t1):=cell_of_heap HS.out.1 3
 have p4:w3.cell? ⟨z+1,4,none⟩=some (.string x1):=cell_of_heap HS.out.1 4
 have p5:w3.cell? ⟨z+1,5,none⟩=some sa:=cell_of_heap HS.out.1 5
 go_wp2_with fail
 refine (hpt.out _).mono ?_
 rintro e w5 ⟨rfl,hb5⟩
 clear hpt p0 p1 p2 p3 p4 p5
 have HG5:=hid (HG.out.trans (hb5.mono HG.out.size))
 have HT:=hid (show w5.heap[z+1]?=some (.cells #[.int .i64 3,.bool b1,.int .i64 n1,.string t1,.string x1,sa] 39 (0,0))∧w5.heap[z+2]?=some (.cells #[.int .i64 3,.bool b2,.int .i64 n2,.string t2,.string x2,sb] 39 (0,0)) from ⟨(hb5.block _ (blk_lt HS.out.1)).trans HS.out.1,(hb5.block _ (blk_lt HS.out.2)).trans HS.out.2⟩)
 clear hb5 HS HG HB3 HB
 have p0:w5.cell? ⟨z+1,0,none⟩=some (.int .i64 3):=cell_of_heap HT.out.1 0
 have p1:w5.cell? ⟨z+1,1,none⟩=some (.bool b1):=cell_of_heap HT.out.1 1
 have p2:w5.cell? ⟨z+1,2,none⟩=some (.int .i64 n1):=cell_of_heap HT.out.1 2
 have p3:w5.cell? ⟨z+1,3,none⟩=some (.string t1):=cell_of_heap HT.out.1 3
 have p4:w5.cell? ⟨z+1,4,none⟩=some (.string x1):=cell_of_heap HT.out.1 4
 have p5:w5.cell? ⟨z+1,5,none⟩=some sa:=cell_of_heap HT.out.1 5
 have q0:w5.cell? ⟨z+2,0,none⟩=some (.int .i64 3):=cell_of_heap HT.out.2 0
 have q1:w5.cell? ⟨z+2,1,none⟩=some (.bool b2):=cell_of_heap HT.out.2 1
 have q2:w5.cell? ⟨z+2,2,none⟩=some (.int .i64 n2):=cell_of_heap HT.out.2 2
 have q3:w5.cell? ⟨z+2,3,none⟩=some (.string t2):=cell_of_heap HT.out.2 3
 have q4:w5.cell? ⟨z+2,4,none⟩=some (.string x2):=cell_of_heap HT.out.2 4
 have q5:w5.cell? ⟨z+2,5,none⟩=some sb:=cell_of_heap HT.out.2 5
 go_wp2_with fail
 refine (hcn.out _ HG5.out).mono ?_
 rintro e w6 ⟨rfl,hb6⟩
 have HG6:=hid (HG5.out.trans (hb6.mono HG5.out.size))
 have HU:=hid (And.intro ((hb6.block _ (blk_lt HT.out.1)).trans HT.out.1) ((hb6.block _ (blk_lt HT.out.2)).trans HT.out.2))
 clear hb6 p0 p1 p2 p3 p4 p5 q0 q1 q2 q3 q4 q5 hcn
 by_cases hc:c=0
 ·subst hc
  have hv:=hid (HV.out.trans (thenC_zero _))
  clear HV
  have p0:w6.cell? ⟨z+1,0,none⟩=some (.int .i64 3):=cell_of_heap HU.out.1 0
  have p1:w6.cell? ⟨z+1,1,none⟩=some (.bool b1):=cell_of_heap HU.out.1 1
  have p2:w6.cell? ⟨z+1,2,none⟩=some (.int .i64 n1):=cell_of_heap HU.out.1 2
  have p3:w6.cell? ⟨z+1,3,none⟩=some (.string t1):=cell_of_heap HU.out.1 3
  have p4:w6.cell? ⟨z+1,4,none⟩=some (.string x1):=cell_of_heap HU.out.1 4
  have p5:w6.cell? ⟨z+1,5,none⟩=some sa:=cell_of_heap HU.out.1 5
  have q0:w6.cell? ⟨z+2,0,none⟩=some (.int .i64 3):=cell_of_heap HU.out.2 0
  have q1:w6.cell? ⟨z+2,1,none⟩=some (.bool b2):=cell_of_heap HU.out.2 1
  have q2:w6.cell? ⟨z+2,2,none⟩=some (.int .i64 n2):=cell_of_heap HU.out.2 2
  have q3:w6.cell? ⟨z+2,3,none⟩=some (.string t2):=cell_of_heap HU.out.2 3
  have q4:w6.cell? ⟨z+2,4,none⟩=some (.string x2):=cell_of_heap HU.out.2 4
  have q5:w6.cell? ⟨z+2,5,none⟩=some sb:=cell_of_heap HU.out.2 5
  go_wp2_with fail
  refine (hst.out _).mono ?_
  rintro e w7 ⟨rfl,hw7⟩
  subst w7
  go_wp2_with fail
  go_ret
  have:=HE.out _ HG6.out
  rwa [hv.out]at this
 ·have e1:(c != 0)=true:=bne_iff_ne.2 hc
  have hv:=hid (show v=c from HV.out.trans (thenC_ne hc))
  clear hc HV
  go_wp2_with fail
  go_ret
  have:=HE.out _ HG6.out
  rwa [hv.out]at this
theorem ordP_bool (a b:Val) (sa sb:Value) (w:World) (ha:a.kind=1) (hb:b.kind=1) :
    Calls Tryz.prog 68 #[.int .i64 1,.agg (cellsV a sa),.agg (cellsV b sb)] w (OrdIs a b w):=by
 have hr1:=hid (λW:World=>rankP_any a sa W)
 have hr2:=hid (λW:World=>rankP_any b sb W)
 have hci:=hid (λW:World=>cmpInt_any (rankS a.kind) (rankS b.kind) W)
 have HC:=hid (show cmpI (rankS a.kind) (rankS b.kind)=0 from by rw[ha,hb];decide)
 have HV:=hid (show ordV a b=cmpI (if a.truth=true then 1 else 0) (if b.truth=true then 1 else 0) from ordV_bool ha hb)
 have htr1:=hid (λW:World=>truthP_any a.truth W)
 have htr2:=hid (λW:World=>truthP_any b.truth W)
 obtain⟨u1,Hu1⟩:=name_itV (if a.truth=true then (1:Int) else 0)
 obtain⟨u2,Hu2⟩:=name_itV (if b.truth=true then (1:Int) else 0)
 rw[Hu1.out,Hu2.out]at HV
 rw[Hu1.out]at htr1
 rw[Hu2.out]at htr2
 have hcu:=hid (λW:World=>cmpInt_any u1 u2 W)
 clear Hu1 Hu2
 unfold RankIs at hr1 hr2
 obtain⟨v,Hv⟩:=name_itV (ordV a b)
 have HE:=hid (show ∀w',Below w.heap.size w w'→OrdIs a b w (.returned (.int .i64 v)) w' from λw' hb=>⟨by rw[Hv.out],hb⟩)
 rw[Hv.out]at HV
 clear Hv
 obtain⟨r1,H1⟩:=name_itV (rankS a.kind)
 obtain⟨r2,H2⟩:=name_itV (rankS b.kind)
 rw[H1.out]at hr1
 rw[H2.out]at hr2
 rw[H1.out,H2.out]at hci HC
 clear H1 H2
 obtain⟨c1,Hc1⟩:=name6 a sa
 obtain⟨c2,Hc2⟩:=name6 b sb
 rw[Hc1.out]at hr1 ⊢
 rw[Hc2.out]at hr2 ⊢
 have Q1:=hid Hc1.size
 have Q2:=hid Hc2.size
 obtain⟨z,Hz⟩:=name_itV w.heap.size
 obtain⟨w1,HW1⟩:=name_itV (((w.alloc (.cells #[.int .i64 1] 3)).alloc (.cells c1 39)).alloc (.cells c2 39))
 have HB:=hid (show Below w.heap.size w w1 from by rw[←HW1.out];exact (two_new w _ _).alloc (by simp;omega) _)
 have HL:=hid (show w1.heap[z]?=some (.cells #[.int .i64 1] 3 (0,0)) from by rw[←HW1.out,←Hz.out];exact alloc3_0 w _ _ _)
 have HX:=hid (show w1.heap[z+1]?=some (.cells c1 39 (0,0)) from by rw[←HW1.out,←Hz.out];exact alloc3_1 w _ _ _)
 have HY:=hid (show w1.heap[z+2]?=some (.cells c2 39 (0,0)) from by rw[←HW1.out,←Hz.out];exact alloc3_2 w _ _ _)
 go_enter Tryz.func68,Tryz.ntmps68
 go_upto_region 1 with fail
 rw[HW1.out,Hz.out]
 clear HW1
 have s1:=hid (show w1.drew.heap[z]?=some (.cells #[.int .i64 1] 3 (0,0))∧w1.drew.heap[z+1]?=some (.cells c1 39 (0,0))∧w1.drew.heap[z+2]?=some (.cells c2 39 (0,0)) from ⟨HL.out,HX.out,HY.out⟩)
 refine wp_region_held_drew (S:=λW'=>W'.heap[z]?=some (.cells #[.int .i64 1] 3 (0,0))∧W'.heap[z+1]?=some (.cells c1 39 (0,0))∧W'.heap[z+2]?=some (.cells c2 39 (0,0))) (by kernel_rfl) s1.out (λhH=>?_)
 refine Boxed.out ?_
 refine tkW 0 13 (.int .i64 1) hH (λw hSw=>?_) (λhH=>?_)
 ·have p:=cell_of_heap hSw.1 0
  unfold runsTo
  go_simp
 try simp only[Act.put,aT,aZ,aS]
 refine tkW 1 14 (.agg c1) hH (λw hSw=>?_) (λhH=>?_)
 ·exact val_of (ld_run hSw.2.1 39 _ Tryz.underlying39 rfl (by rw[Q1.out];kernel_rfl))
 try simp only[Act.put,aT,aZ,aS]
 refine tkW 3 16 (.int .i64 1) hH (λw hSw=>?_) (λhH=>?_)
 ·have p:=cell_of_heap hSw.1 0
  unfold runsTo
  go_simp
 try simp only[Act.put,aT,aZ,aS]
 refine tkW 4 17 (.agg c2) hH (λw hSw=>?_) (λhH=>?_)
 ·exact val_of (ld_run hSw.2.2 39 _ Tryz.underlying39 rfl (by rw[Q2.out];kernel_rfl))
 try simp only[Act.put,aT,aZ,aS]
 refine tkC 2 (λK hK=>?_)
 change Oper.wp _ ⟨some 15,_,_,_,_,_⟩ _ _ _ _
 go_simp
 refine (hr1.out w1.drew).mono ?_
 rintro e w2 ⟨rfl,hb2⟩
 have HB2:=hid (show Below w1.heap.size w1 w2 from below_of_dr hb2)
 have HS2:=hid (show w2.heap[z]?=some (.cells #[.int .i64 1] 3 (0,0))∧w2.heap[z+1]?=some (.cells c1 39 (0,0))∧w2.heap[z+2]?=some (.cells c2 39 (0,0)) from ⟨(HB2.out.block z (blk_lt HL.out)).trans HL.out,(HB2.out.block (z+1) (blk_lt HX.out)).trans HX.out,(HB2.out.block (z+2) (blk_lt HY.out)).trans HY.out⟩)
 clear hb2
 dsimp only
 refine hK.out _ _ HS2.out (λhH=>?_)
 clear hK K
 try simp only[Act.put,aT,aZ,aS]
 refine tkC 5 (λK hK=>?_)
 change Oper.wp _ ⟨some 18,_,_,_,_,_⟩ _ _ _ _
 go_simp
 refine (hr2.out w2).mono ?_
 rintro e w3 ⟨rfl,hb3⟩
 have HB3:=hid (HB2.out.trans (hb3.mono HB2.out.size))
 have HS3:=hid (show w3.heap[z]?=some (.cells #[.int .i64 1] 3 (0,0))∧w3.heap[z+1]?=some (.cells c1 39 (0,0))∧w3.heap[z+2]?=some (.cells c2 39 (0,0)) from ⟨(HB3.out.block z (blk_lt HL.out)).trans HL.out,(HB3.out.block (z+1) (blk_lt HX.out)).trans HX.out,(HB3.out.block (z+2) (blk_lt HY.out)).trans HY.out⟩)
 clear hb3
 dsimp only
 refine hK.out _ _ HS3.out (λhH=>?_)
 clear hK K
 try simp only[Act.put,aT,aZ,aS]
 refine tkC 6 (λK hK=>?_)
 change Oper.wp _ ⟨some 19,_,_,_,_,_⟩ _ _ _ _
 go_simp
 refine (hci.out w3).mono ?_
 rintro e w4 ⟨rfl,hw4⟩
 subst w4
 dsimp only
 refine hK.out _ _ HS3.out (λhH=>?_)
 clear hK K
 try simp only[Act.put,aT,aZ,aS]
 rw[HC.out]
 refine tkV 7 7 (.int .i64 0) hH (λhH=>?_)
 try simp only[Act.put,aT,aZ,aS]
 refine⟨wpAnyH_done (by kernel_rfl) ?_ _⟩
 clear hH
 have HG:=hid (HB.out.trans (HB3.out.mono HB.out.size))
 clear hr1 hr2 hci HL HX HY HB2 HS2 s1
 have HS:=hid (show w3.heap[z+1]?=some (.cells (cellsV a sa) 39 (0,0))∧w3.heap[z+2]?=some (.cells (cellsV b sb) 39 (0,0)) from by rw[Hc1.out,Hc2.out];exact⟨HS3.out.2.1,HS3.out.2.2⟩)
 clear HS3 Q1 Q2 Hc1 Hc2
 have hpt:=hid (λW:World=>part_any a sa W)
 unfold PartIs at hpt
 cases a with
 | mk k1 b1 n1 t1 x1 l1=>
 cases b with
 | mk k2 b2 n2 t2 x2 l2=>
 unfold cellsV at HS hpt 
 simp only[Val.kind,Val.truth,Val.num,Val.text,Val.extra]at HS hpt htr1 htr2 ha hb
 subst ha
 subst hb
 have hpt:=hid (λW:World=>(show Calls Tryz.prog 128 #[.agg #[.int .i64 1,.bool b1,.int .i64 n1,.string t1,.string x1,sa]] W (λe w'=>e = .returned (.iface 194 (.bool b1))∧Below W.heap.size W w') from hpt.out W))
 have as_whole:=ao_boolean_whole (.bool b1)
 have as_broken:=ao_boolean_broken (.bool b1)
 have as_list:=ao_boolean_list (.bool b1)
 have as_thing:=ao_boolean_thing (.bool b1)
 have as_boolean:=ao_boolean_boolean (.bool b1)
 have p0:w3.cell? ⟨z+1,0,none⟩=some (.int .i64 1):=cell_of_heap HS.out.1 0
 have p1:w3.cell? ⟨z+1,1,none⟩=some (.bool b1):=cell_of_heap HS.out.1 1
 have p2:w3.cell? ⟨z+1,2,none⟩=some (.int .i64 n1):=cell_of_heap HS.out.1 2
 have p3:w3.cell? ⟨z+1,3,none⟩=some (.string t1):=cell_of_heap HS.out.1 3
 have p4:w3.cell? ⟨z+1,4,none⟩=some (.string x1):=cell_of_heap HS.out.1 4
 have p5:w3.cell? ⟨z+1,5,none⟩=some sa:=cell_of_heap HS.out.1 5
 go_wp2_with fail
 refine (hpt.out _).mono ?_
 rintro e w5 ⟨rfl,hb5⟩
 clear hpt p0 p1 p2 p3 p4 p5
 have HG5:=hid (HG.out.trans (hb5.mono HG.out.size))
 have HT:=hid (show w5.heap[z+1]?=some (.cells #[.int .i64 1,.bool b1,.int .i64 n1,.string t1,.string x1,sa] 39 (0,0))∧w5.heap[z+2]?=some (.cells #[.int .i64 1,.bool b2,.int .i64 n2,.string t2,.string x2,sb] 39 (0,0)) from ⟨(hb5.block _ (blk_lt HS.out.1)).trans HS.out.1,(hb5.block _ (blk_lt HS.out.2)).trans HS.out.2⟩)
 clear hb5 HS HG HB3 HB
 have hcu:=hid (λW:World=>(show Calls Tryz.prog 126 #[.int .i64 u1,.int .i64 u2] W (λe w'=>e = .returned (.int .i64 v)∧w'=W) from by rw[HV.out];exact hcu.out W))
 go_upto_region 21 with fail
 have s5:=hid (show w5.drew.heap[z+1]?=some (.cells #[.int .i64 1,.bool b1,.int .i64 n1,.string t1,.string x1,sa] 39 (0,0))∧w5.drew.heap[z+2]?=some (.cells #[.int .i64 1,.bool b2,.int .i64 n2,.string t2,.string x2,sb] 39 (0,0)) from HT.out)
 refine wp_region_held_drew (S:=λW'=>W'.heap[z+1]?=some (.cells #[.int .i64 1,.bool b1,.int .i64 n1,.string t1,.string x1,sa] 39 (0,0))∧W'.heap[z+2]?=some (.cells #[.int .i64 1,.bool b2,.int .i64 n2,.string t2,.string x2,sb] 39 (0,0))) (by kernel_rfl) s5.out (λhH=>?_)
 refine Boxed.out ?_
 refine tkV 0 75 (.pointer (some ⟨z+1,1,none⟩)) hH (λhH=>?_)
 try simp only[Act.put,aT,aZ,aS]
 refine tkW 1 76 (.bool b1) hH (λw hSw=>?_) (λhH=>?_)
 ·have p:=cell_of_heap hSw.1 1
  unfold runsTo
  go_simp
 try simp only[Act.put,aT,aZ,aS]
 refine tkV 3 78 (.pointer (some ⟨z+2,1,none⟩)) hH (λhH=>?_)
 try simp only[Act.put,aT,aZ,aS]
 refine tkW 4 79 (.bool b2) hH (λw hSw=>?_) (λhH=>?_)
 ·have p:=cell_of_heap hSw.2 1
  unfold runsTo
  go_simp
 try simp only[Act.put,aT,aZ,aS]
 refine tkC 2 (λK hK=>?_)
 change Oper.wp _ ⟨some 77,_,_,_,_,_⟩ _ _ _ _
 go_simp
 refine (htr1.out _).mono ?_
 rintro e w6 ⟨rfl,hw6⟩
 subst w6
 dsimp only
 refine hK.out _ _ s5.out (λhH=>?_)
 clear hK K
 try simp only[Act.put,aT,aZ,aS]
 refine tkC 5 (λK hK=>?_)
 change Oper.wp _ ⟨some 80,_,_,_,_,_⟩ _ _ _ _
 go_simp
 refine (htr2.out _).mono ?_
 rintro e w6 ⟨rfl,hw6⟩
 subst w6
 dsimp only
 refine hK.out _ _ s5.out (λhH=>?_)
 clear hK K
 try simp only[Act.put,aT,aZ,aS]
 refine tkC 6 (λK hK=>?_)
 change Oper.wp _ ⟨some 81,_,_,_,_,_⟩ _ _ _ _
 go_simp
 refine (hcu.out _).mono ?_
 rintro e w6 ⟨rfl,hw6⟩
 subst w6
 dsimp only
 refine hK.out _ _ s5.out (λhH=>?_)
 clear hK K
 try simp only[Act.put,aT,aZ,aS]
 refine tkV 7 6 (.int .i64 v) hH (λhH=>?_)
 try simp only[Act.put,aT,aZ,aS]
 refine⟨wpAnyH_done (by kernel_rfl) ?_ _⟩
 clear hH
 go_wp2_with fail
 go_ret
 exact HE.out _ HG5.out.drew
theorem ordP_text4 (a b:Val) (sa sb:Value) (w:World) (ha:a.kind=4) (hb:b.kind=4) :
    Calls Tryz.prog 68 #[.int .i64 1,.agg (cellsV a sa),.agg (cellsV b sb)] w (OrdIs a b w):=by
 have hr1:=hid (λW:World=>rankP_any a sa W)
 have hr2:=hid (λW:World=>rankP_any b sb W)
 have hci:=hid (λW:World=>cmpInt_any (rankS a.kind) (rankS b.kind) W)
 have HC:=hid (show cmpI (rankS a.kind) (rankS b.kind)=0 from by rw[ha,hb];decide)
 have HV:=hid (show ordV a b=thenC (cmpS a.text.data.toList b.text.data.toList) (cmpS a.extra.data.toList b.extra.data.toList) from ordV_text (by rw[ha,hb]) (by rw[ha];decide) (by omega))
 have hs1:=hid (λW:World=>cmpStr_any a.text b.text W)
 have hs2:=hid (λW:World=>cmpStr_any a.extra b.extra W)
 obtain⟨u1,Hu1⟩:=name_itV (cmpS a.text.data.toList b.text.data.toList)
 obtain⟨u2,Hu2⟩:=name_itV (cmpS a.extra.data.toList b.extra.data.toList)
 rw[Hu1.out,Hu2.out]at HV
 rw[Hu1.out]at hs1
 rw[Hu2.out]at hs2
 clear Hu1 Hu2
 unfold RankIs at hr1 hr2
 obtain⟨v,Hv⟩:=name_itV (ordV a b)
 have HE:=hid (show ∀w',Below w.heap.size w w'→OrdIs a b w (.returned (.int .i64 v)) w' from λw' hb=>⟨by rw[Hv.out],hb⟩)
 rw[Hv.out]at HV
 clear Hv
 obtain⟨r1,H1⟩:=name_itV (rankS a.kind)
 obtain⟨r2,H2⟩:=name_itV (rankS b.kind)
 rw[H1.out]at hr1
 rw[H2.out]at hr2
 rw[H1.out,H2.out]at hci HC
 clear H1 H2
 obtain⟨c1,Hc1⟩:=name6 a sa
 obtain⟨c2,Hc2⟩:=name6 b sb
 rw[Hc1.out]at hr1 ⊢
 rw[Hc2.out]at hr2 ⊢
 have Q1:=hid Hc1.size
 have Q2:=hid Hc2.size
 obtain⟨z,Hz⟩:=name_itV w.heap.size
 obtain⟨w1,HW1⟩:=name_itV (((w.alloc (.cells #[.int .i64 1] 3)).alloc (.cells c1 39)).alloc (.cells c2 39))
 have HB:=hid (show Below w.heap.size w w1 from by rw[←HW1.out];exact (two_new w _ _).alloc (by simp;omega) _)
 have HL:=hid (show w1.heap[z]?=some (.cells #[.int .i64 1] 3 (0,0)) from by rw[←HW1.out,←Hz.out];exact alloc3_0 w _ _ _)
 have HX:=hid (show w1.heap[z+1]?=some (.cells c1 39 (0,0)) from by rw[←HW1.out,←Hz.out];exact alloc3_1 w _ _ _)
 have HY:=hid (show w1.heap[z+2]?=some (.cells c2 39 (0,0)) from by rw[←HW1.out,←Hz.out];exact alloc3_2 w _ _ _)
 go_enter Tryz.func68,Tryz.ntmps68
 go_upto_region 1 with fail
 rw[HW1.out,Hz.out]
 clear HW1
 have s1:=hid (show w1.drew.heap[z]?=some (.cells #[.int .i64 1] 3 (0,0))∧w1.drew.heap[z+1]?=some (.cells c1 39 (0,0))∧w1.drew.heap[z+2]?=some (.cells c2 39 (0,0)) from ⟨HL.out,HX.out,HY.out⟩)
 refine wp_region_held_drew (S:=λW'=>W'.heap[z]?=some (.cells #[.int .i64 1] 3 (0,0))∧W'.heap[z+1]?=some (.cells c1 39 (0,0))∧W'.heap[z+2]?=some (.cells c2 39 (0,0))) (by kernel_rfl) s1.out (λhH=>?_)
 refine Boxed.out ?_
 refine tkW 0 13 (.int .i64 1) hH (λw hSw=>?_) (λhH=>?_)
 ·have p:=cell_of_heap hSw.1 0
  unfold runsTo
  go_simp
 try simp only[Act.put,aT,aZ,aS]
 refine tkW 1 14 (.agg c1) hH (λw hSw=>?_) (λhH=>?_)
 ·exact val_of (ld_run hSw.2.1 39 _ Tryz.underlying39 rfl (by rw[Q1.out];kernel_rfl))
 try simp only[Act.put,aT,aZ,aS]
 refine tkW 3 16 (.int .i64 1) hH (λw hSw=>?_) (λhH=>?_)
 ·have p:=cell_of_heap hSw.1 0
  unfold runsTo
  go_simp
 try simp only[Act.put,aT,aZ,aS]
 refine tkW 4 17 (.agg c2) hH (λw hSw=>?_) (λhH=>?_)
 ·exact val_of (ld_run hSw.2.2 39 _ Tryz.underlying39 rfl (by rw[Q2.out];kernel_rfl))
 try simp only[Act.put,aT,aZ,aS]
 refine tkC 2 (λK hK=>?_)
 change Oper.wp _ ⟨some 15,_,_,_,_,_⟩ _ _ _ _
 go_simp
 refine (hr1.out w1.drew).mono ?_
 rintro e w2 ⟨rfl,hb2⟩
 have HB2:=hid (show Below w1.heap.size w1 w2 from below_of_dr hb2)
 have HS2:=hid (show w2.heap[z]?=some (.cells #[.int .i64 1] 3 (0,0))∧w2.heap[z+1]?=some (.cells c1 39 (0,0))∧w2.heap[z+2]?=some (.cells c2 39 (0,0)) from ⟨(HB2.out.block z (blk_lt HL.out)).trans HL.out,(HB2.out.block (z+1) (blk_lt HX.out)).trans HX.out,(HB2.out.block (z+2) (blk_lt HY.out)).trans HY.out⟩)
 clear hb2
 dsimp only
 refine hK.out _ _ HS2.out (λhH=>?_)
 clear hK K
 try simp only[Act.put,aT,aZ,aS]
 refine tkC 5 (λK hK=>?_)
 change Oper.wp _ ⟨some 18,_,_,_,_,_⟩ _ _ _ _
 go_simp
 refine (hr2.out w2).mono ?_
 rintro e w3 ⟨rfl,hb3⟩
 have HB3:=hid (HB2.out.trans (hb3.mono HB2.out.size))
 have HS3:=hid (show w3.heap[z]?=some (.cells #[.int .i64 1] 3 (0,0))∧w3.heap[z+1]?=some (.cells c1 39 (0,0))∧w3.heap[z+2]?=some (.cells c2 39 (0,0)) from ⟨(HB3.out.block z (blk_lt HL.out)).trans HL.out,(HB3.out.block (z+1) (blk_lt HX.out)).trans HX.out,(HB3.out.block (z+2) (blk_lt HY.out)).trans HY.out⟩)
 clear hb3
 dsimp only
 refine hK.out _ _ HS3.out (λhH=>?_)
 clear hK K
 try simp only[Act.put,aT,aZ,aS]
 refine tkC 6 (λK hK=>?_)
 change Oper.wp _ ⟨some 19,_,_,_,_,_⟩ _ _ _ _
 go_simp
 refine (hci.out w3).mono ?_
 rintro e w4 ⟨rfl,hw4⟩
 subst w4
 dsimp only
 refine hK.out _ _ HS3.out (λhH=>?_)
 clear hK K
 try simp only[Act.put,aT,aZ,aS]
 rw[HC.out]
 refine tkV 7 7 (.int .i64 0) hH (λhH=>?_)
 try simp only[Act.put,aT,aZ,aS]
 refine⟨wpAnyH_done (by kernel_rfl) ?_ _⟩
 clear hH
 have HG:=hid (HB.out.trans (HB3.out.mono HB.out.size))
 clear hr1 hr2 hci HL HX HY HB2 HS2 s1
 have HS:=hid (show w3.heap[z+1]?=some (.cells (cellsV a sa) 39 (0,0))∧w3.heap[z+2]?=some (.cells (cellsV b sb) 39 (0,0)) from by rw[Hc1.out,Hc2.out];exact⟨HS3.out.2.1,HS3.out.2.2⟩)
 clear HS3 Q1 Q2 Hc1 Hc2
 have hpt:=hid (λW:World=>part_any a sa W)
 unfold PartIs at hpt
 cases a with
 | mk k1 b1 n1 t1 x1 l1=>
 cases b with
 | mk k2 b2 n2 t2 x2 l2=>
 unfold cellsV at HS hpt 
 simp only[Val.kind,Val.truth,Val.num,Val.text,Val.extra]at HS hpt hs1 hs2 ha hb
 subst ha
 subst hb
 have hpt:=hid (λW:World=>(show Calls Tryz.prog 128 #[.agg #[.int .i64 4,.bool b1,.int .i64 n1,.string t1,.string x1,sa]] W (λe w'=>e = .returned (.iface 234 (.string t1))∧Below W.heap.size W w') from hpt.out W))
 have as_whole:=ao_words_whole (.string t1)
 have as_broken:=ao_words_broken (.string t1)
 have as_list:=ao_words_list (.string t1)
 have as_thing:=ao_words_thing (.string t1)
 have as_boolean:=ao_words_boolean (.string t1)
 have p0:w3.cell? ⟨z+1,0,none⟩=some (.int .i64 4):=cell_of_heap HS.out.1 0
 have p1:w3.cell? ⟨z+1,1,none⟩=some (.bool b1):=cell_of_heap HS.out.1 1
 have p2:w3.cell? ⟨z+1,2,none⟩=some (.int .i64 n1):=cell_of_heap HS.out.1 2
 have p3:w3.cell? ⟨z+1,3,none⟩=some (.string t1):=cell_of_heap HS.out.1 3
 have p4:w3.cell? ⟨z+1,4,none⟩=some (.string x1):=cell_of_heap HS.out.1 4
 have p5:w3.cell? ⟨z+1,5,none⟩=some sa:=cell_of_heap HS.out.1 5
 go_wp2_with fail
 refine (hpt.out _).mono ?_
 rintro e w5 ⟨rfl,hb5⟩
 clear hpt p0 p1 p2 p3 p4 p5
 have HG5:=hid (HG.out.trans (hb5.mono HG.out.size))
 have HT:=hid (show w5.heap[z+1]?=some (.cells #[.int .i64 4,.bool b1,.int .i64 n1,.string t1,.string x1,sa] 39 (0,0))∧w5.heap[z+2]?=some (.cells #[.int .i64 4,.bool b2,.int .i64 n2,.string t2,.string x2,sb] 39 (0,0)) from ⟨(hb5.block _ (blk_lt HS.out.1)).trans HS.out.1,(hb5.block _ (blk_lt HS.out.2)).trans HS.out.2⟩)
 clear hb5 HS HG HB3 HB
 go_upto_region 22 with fail
 have s5:=hid (show w5.drew.heap[z+1]?=some (.cells #[.int .i64 4,.bool b1,.int .i64 n1,.string t1,.string x1,sa] 39 (0,0))∧w5.drew.heap[z+2]?=some (.cells #[.int .i64 4,.bool b2,.int .i64 n2,.string t2,.string x2,sb] 39 (0,0)) from HT.out)
 refine wp_region_held_drew (S:=λW'=>W'.heap[z+1]?=some (.cells #[.int .i64 4,.bool b1,.int .i64 n1,.string t1,.string x1,sa] 39 (0,0))∧W'.heap[z+2]?=some (.cells #[.int .i64 4,.bool b2,.int .i64 n2,.string t2,.string x2,sb] 39 (0,0))) (by kernel_rfl) s5.out (λhH=>?_)
 refine Boxed.out ?_
 refine tkV 0 82 (.pointer (some ⟨z+1,3,none⟩)) hH (λhH=>?_)
 try simp only[Act.put,aT,aZ,aS]
 refine tkW 1 83 (.string t1) hH (λw hSw=>?_) (λhH=>?_)
 ·have p:=cell_of_heap hSw.1 3
  unfold runsTo
  go_simp
 try simp only[Act.put,aT,aZ,aS]
 refine tkV 2 84 (.pointer (some ⟨z+2,3,none⟩)) hH (λhH=>?_)
 try simp only[Act.put,aT,aZ,aS]
 refine tkW 3 85 (.string t2) hH (λw hSw=>?_) (λhH=>?_)
 ·have p:=cell_of_heap hSw.2 3
  unfold runsTo
  go_simp
 try simp only[Act.put,aT,aZ,aS]
 refine tkV 5 87 (.pointer (some ⟨z+1,4,none⟩)) hH (λhH=>?_)
 try simp only[Act.put,aT,aZ,aS]
 refine tkW 6 88 (.string x1) hH (λw hSw=>?_) (λhH=>?_)
 ·have p:=cell_of_heap hSw.1 4
  unfold runsTo
  go_simp
 try simp only[Act.put,aT,aZ,aS]
 refine tkV 7 89 (.pointer (some ⟨z+2,4,none⟩)) hH (λhH=>?_)
 try simp only[Act.put,aT,aZ,aS]
 refine tkW 8 90 (.string x2) hH (λw hSw=>?_) (λhH=>?_)
 ·have p:=cell_of_heap hSw.2 4
  unfold runsTo
  go_simp
 try simp only[Act.put,aT,aZ,aS]
 refine tkC 4 (λK hK=>?_)
 change Oper.wp _ ⟨some 86,_,_,_,_,_⟩ _ _ _ _
 go_simp
 refine (hs1.out _).mono ?_
 rintro e w6 ⟨rfl,hw6⟩
 subst w6
 dsimp only
 refine hK.out _ _ s5.out (λhH=>?_)
 clear hK K
 try simp only[Act.put,aT,aZ,aS]
 refine tkC 9 (λK hK=>?_)
 change Oper.wp _ ⟨some 91,_,_,_,_,_⟩ _ _ _ _
 go_simp
 refine (hs2.out _).mono ?_
 rintro e w6 ⟨rfl,hw6⟩
 subst w6
 dsimp only
 refine hK.out _ _ s5.out (λhH=>?_)
 clear hK K
 try simp only[Act.put,aT,aZ,aS]
 have HS6:=hid (show (w5.drew.alloc (.cells #[.int .i64 u1,.int .i64 u2] 3)).heap[z+1]?=some (.cells #[.int .i64 4,.bool b1,.int .i64 n1,.string t1,.string x1,sa] 39 (0,0))∧(w5.drew.alloc (.cells #[.int .i64 u1,.int .i64 u2] 3)).heap[z+2]?=some (.cells #[.int .i64 4,.bool b2,.int .i64 n2,.string t2,.string x2,sb] 39 (0,0)) from ⟨(Below.heap_alloc _ _ _ (blk_lt HT.out.1)).trans HT.out.1,(Below.heap_alloc _ _ _ (blk_lt HT.out.2)).trans HT.out.2⟩)
 have HG6:=hid ((HG5.out.drew).alloc (Nat.le_trans HG5.out.size (Nat.le_refl _)) (.cells #[.int .i64 u1,.int .i64 u2] 3))
 have hor:=hid (or2_any u1 u2 w5.heap.size 2 (w5.drew.alloc (.cells #[.int .i64 u1,.int .i64 u2] 3)) (cell_of_heap (heap_alloc_new w5.drew _) 0) (cell_of_heap (heap_alloc_new w5.drew _) 1))
 rw[←HV.out]at hor
 refine tkC 10 (λK hK=>?_)
 change Oper.wp _ ⟨some 92,_,_,_,_,_⟩ _ _ _ _
 go_simp
 refine hK.out _ _ HS6.out (λhH=>?_)
 clear hK K
 try simp only[Act.put,aT,aZ,aS]
 refine tkC 11 (λK hK=>?_)
 change Oper.wp _ ⟨some 93,_,_,_,_,_⟩ _ _ _ _
 go_simp
 refine (hor.out).mono ?_
 rintro e w6 ⟨rfl,hw6⟩
 subst w6
 dsimp only
 refine hK.out _ _ HS6.out (λhH=>?_)
 clear hK K
 try simp only[Act.put,aT,aZ,aS]
 refine tkV 12 6 (.int .i64 v) hH (λhH=>?_)
 try simp only[Act.put,aT,aZ,aS]
 refine⟨wpAnyH_done (by kernel_rfl) ?_ _⟩
 clear hH
 go_wp2_with fail
 go_ret
 exact HE.out _ HG6.out
theorem ordP_text8 (a b:Val) (sa sb:Value) (w:World) (ha:a.kind=8) (hb:b.kind=8) :
    Calls Tryz.prog 68 #[.int .i64 1,.agg (cellsV a sa),.agg (cellsV b sb)] w (OrdIs a b w):=by
 have hr1:=hid (λW:World=>rankP_any a sa W)
 have hr2:=hid (λW:World=>rankP_any b sb W)
 have hci:=hid (λW:World=>cmpInt_any (rankS a.kind) (rankS b.kind) W)
 have HC:=hid (show cmpI (rankS a.kind) (rankS b.kind)=0 from by rw[ha,hb];decide)
 have HV:=hid (show ordV a b=thenC (cmpS a.text.data.toList b.text.data.toList) (cmpS a.extra.data.toList b.extra.data.toList) from ordV_text (by rw[ha,hb]) (by rw[ha];decide) (by omega))
 have hs1:=hid (λW:World=>cmpStr_any a.text b.text W)
 have hs2:=hid (λW:World=>cmpStr_any a.extra b.extra W)
 obtain⟨u1,Hu1⟩:=name_itV (cmpS a.text.data.toList b.text.data.toList)
 obtain⟨u2,Hu2⟩:=name_itV (cmpS a.extra.data.toList b.extra.data.toList)
 rw[Hu1.out,Hu2.out]at HV
 rw[Hu1.out]at hs1
 rw[Hu2.out]at hs2
 clear Hu1 Hu2
 unfold RankIs at hr1 hr2
 obtain⟨v,Hv⟩:=name_itV (ordV a b)
 have HE:=hid (show ∀w',Below w.heap.size w w'→OrdIs a b w (.returned (.int .i64 v)) w' from λw' hb=>⟨by rw[Hv.out],hb⟩)
 rw[Hv.out]at HV
 clear Hv
 obtain⟨r1,H1⟩:=name_itV (rankS a.kind)
 obtain⟨r2,H2⟩:=name_itV (rankS b.kind)
 rw[H1.out]at hr1
 rw[H2.out]at hr2
 rw[H1.out,H2.out]at hci HC
 clear H1 H2
 obtain⟨c1,Hc1⟩:=name6 a sa
 obtain⟨c2,Hc2⟩:=name6 b sb
 rw[Hc1.out]at hr1 ⊢
 rw[Hc2.out]at hr2 ⊢
 have Q1:=hid Hc1.size
 have Q2:=hid Hc2.size
 obtain⟨z,Hz⟩:=name_itV w.heap.size
 obtain⟨w1,HW1⟩:=name_itV (((w.alloc (.cells #[.int .i64 1] 3)).alloc (.cells c1 39)).alloc (.cells c2 39))
 have HB:=hid (show Below w.heap.size w w1 from by rw[←HW1.out];exact (two_new w _ _).alloc (by simp;omega) _)
 have HL:=hid (show w1.heap[z]?=some (.cells #[.int .i64 1] 3 (0,0)) from by rw[←HW1.out,←Hz.out];exact alloc3_0 w _ _ _)
 have HX:=hid (show w1.heap[z+1]?=some (.cells c1 39 (0,0)) from by rw[←HW1.out,←Hz.out];exact alloc3_1 w _ _ _)
 have HY:=hid (show w1.heap[z+2]?=some (.cells c2 39 (0,0)) from by rw[←HW1.out,←Hz.out];exact alloc3_2 w _ _ _)
 go_enter Tryz.func68,Tryz.ntmps68
 go_upto_region 1 with fail
 rw[HW1.out,Hz.out]
 clear HW1
 have s1:=hid (show w1.drew.heap[z]?=some (.cells #[.int .i64 1] 3 (0,0))∧w1.drew.heap[z+1]?=some (.cells c1 39 (0,0))∧w1.drew.heap[z+2]?=some (.cells c2 39 (0,0)) from ⟨HL.out,HX.out,HY.out⟩)
 refine wp_region_held_drew (S:=λW'=>W'.heap[z]?=some (.cells #[.int .i64 1] 3 (0,0))∧W'.heap[z+1]?=some (.cells c1 39 (0,0))∧W'.heap[z+2]?=some (.cells c2 39 (0,0))) (by kernel_rfl) s1.out (λhH=>?_)
 refine Boxed.out ?_
 refine tkW 0 13 (.int .i64 1) hH (λw hSw=>?_) (λhH=>?_)
 ·have p:=cell_of_heap hSw.1 0
  unfold runsTo
  go_simp
 try simp only[Act.put,aT,aZ,aS]
 refine tkW 1 14 (.agg c1) hH (λw hSw=>?_) (λhH=>?_)
 ·exact val_of (ld_run hSw.2.1 39 _ Tryz.underlying39 rfl (by rw[Q1.out];kernel_rfl))
 try simp only[Act.put,aT,aZ,aS]
 refine tkW 3 16 (.int .i64 1) hH (λw hSw=>?_) (λhH=>?_)
 ·have p:=cell_of_heap hSw.1 0
  unfold runsTo
  go_simp
 try simp only[Act.put,aT,aZ,aS]
 refine tkW 4 17 (.agg c2) hH (λw hSw=>?_) (λhH=>?_)
 ·exact val_of (ld_run hSw.2.2 39 _ Tryz.underlying39 rfl (by rw[Q2.out];kernel_rfl))
 try simp only[Act.put,aT,aZ,aS]
 refine tkC 2 (λK hK=>?_)
 change Oper.wp _ ⟨some 15,_,_,_,_,_⟩ _ _ _ _
 go_simp
 refine (hr1.out w1.drew).mono ?_
 rintro e w2 ⟨rfl,hb2⟩
 have HB2:=hid (show Below w1.heap.size w1 w2 from below_of_dr hb2)
 have HS2:=hid (show w2.heap[z]?=some (.cells #[.int .i64 1] 3 (0,0))∧w2.heap[z+1]?=some (.cells c1 39 (0,0))∧w2.heap[z+2]?=some (.cells c2 39 (0,0)) from ⟨(HB2.out.block z (blk_lt HL.out)).trans HL.out,(HB2.out.block (z+1) (blk_lt HX.out)).trans HX.out,(HB2.out.block (z+2) (blk_lt HY.out)).trans HY.out⟩)
 clear hb2
 dsimp only
 refine hK.out _ _ HS2.out (λhH=>?_)
 clear hK K
 try simp only[Act.put,aT,aZ,aS]
 refine tkC 5 (λK hK=>?_)
 change Oper.wp _ ⟨some 18,_,_,_,_,_⟩ _ _ _ _
 go_simp
 refine (hr2.out w2).mono ?_
 rintro e w3 ⟨rfl,hb3⟩
 have HB3:=hid (HB2.out.trans (hb3.mono HB2.out.size))
 have HS3:=hid (show w3.heap[z]?=some (.cells #[.int .i64 1] 3 (0,0))∧w3.heap[z+1]?=some (.cells c1 39 (0,0))∧w3.heap[z+2]?=some (.cells c2 39 (0,0)) from ⟨(HB3.out.block z (blk_lt HL.out)).trans HL.out,(HB3.out.block (z+1) (blk_lt HX.out)).trans HX.out,(HB3.out.block (z+2) (blk_lt HY.out)).trans HY.out⟩)
 clear hb3
 dsimp only
 refine hK.out _ _ HS3.out (λhH=>?_)
 clear hK K
 try simp only[Act.put,aT,aZ,aS]
 refine tkC 6 (λK hK=>?_)
 change Oper.wp _ ⟨some 19,_,_,_,_,_⟩ _ _ _ _
 go_simp
 refine (hci.out w3).mono ?_
 rintro e w4 ⟨rfl,hw4⟩
 subst w4
 dsimp only
 refine hK.out _ _ HS3.out (λhH=>?_)
 clear hK K
 try simp only[Act.put,aT,aZ,aS]
 rw[HC.out]
 refine tkV 7 7 (.int .i64 0) hH (λhH=>?_)
 try simp only[Act.put,aT,aZ,aS]
 refine⟨wpAnyH_done (by kernel_rfl) ?_ _⟩
 clear hH
 have HG:=hid (HB.out.trans (HB3.out.mono HB.out.size))
 clear hr1 hr2 hci HL HX HY HB2 HS2 s1
 have HS:=hid (show w3.heap[z+1]?=some (.cells (cellsV a sa) 39 (0,0))∧w3.heap[z+2]?=some (.cells (cellsV b sb) 39 (0,0)) from by rw[Hc1.out,Hc2.out];exact⟨HS3.out.2.1,HS3.out.2.2⟩)
 clear HS3 Q1 Q2 Hc1 Hc2
 have hpt:=hid (λW:World=>part_any a sa W)
 unfold PartIs at hpt
 cases a with
 | mk k1 b1 n1 t1 x1 l1=>
 cases b with
 | mk k2 b2 n2 t2 x2 l2=>
 unfold cellsV at HS hpt 
 simp only[Val.kind,Val.truth,Val.num,Val.text,Val.extra]at HS hpt hs1 hs2 ha hb
 subst ha
 subst hb
 have hpt:=hid (λW:World=>(show Calls Tryz.prog 128 #[.agg #[.int .i64 8,.bool b1,.int .i64 n1,.string t1,.string x1,sa]] W (λe w'=>e = .returned (.iface 234 (.string t1))∧Below W.heap.size W w') from hpt.out W))
 have as_whole:=ao_words_whole (.string t1)
 have as_broken:=ao_words_broken (.string t1)
 have as_list:=ao_words_list (.string t1)
 have as_thing:=ao_words_thing (.string t1)
 have as_boolean:=ao_words_boolean (.string t1)
 have p0:w3.cell? ⟨z+1,0,none⟩=some (.int .i64 8):=cell_of_heap HS.out.1 0
 have p1:w3.cell? ⟨z+1,1,none⟩=some (.bool b1):=cell_of_heap HS.out.1 1
 have p2:w3.cell? ⟨z+1,2,none⟩=some (.int .i64 n1):=cell_of_heap HS.out.1 2
 have p3:w3.cell? ⟨z+1,3,none⟩=some (.string t1):=cell_of_heap HS.out.1 3
 have p4:w3.cell? ⟨z+1,4,none⟩=some (.string x1):=cell_of_heap HS.out.1 4
 have p5:w3.cell? ⟨z+1,5,none⟩=some sa:=cell_of_heap HS.out.1 5
 go_wp2_with fail
 refine (hpt.out _).mono ?_
 rintro e w5 ⟨rfl,hb5⟩
 clear hpt p0 p1 p2 p3 p4 p5
 have HG5:=hid (HG.out.trans (hb5.mono HG.out.size))
 have HT:=hid (show w5.heap[z+1]?=some (.cells #[.int .i64 8,.bool b1,.int .i64 n1,.string t1,.string x1,sa] 39 (0,0))∧w5.heap[z+2]?=some (.cells #[.int .i64 8,.bool b2,.int .i64 n2,.string t2,.string x2,sb] 39 (0,0)) from ⟨(hb5.block _ (blk_lt HS.out.1)).trans HS.out.1,(hb5.block _ (blk_lt HS.out.2)).trans HS.out.2⟩)
 clear hb5 HS HG HB3 HB
 go_upto_region 22 with fail
 have s5:=hid (show w5.drew.heap[z+1]?=some (.cells #[.int .i64 8,.bool b1,.int .i64 n1,.string t1,.string x1,sa] 39 (0,0))∧w5.drew.heap[z+2]?=some (.cells #[.int .i64 8,.bool b2,.int .i64 n2,.string t2,.string x2,sb] 39 (0,0)) from HT.out)
 refine wp_region_held_drew (S:=λW'=>W'.heap[z+1]?=some (.cells #[.int .i64 8,.bool b1,.int .i64 n1,.string t1,.string x1,sa] 39 (0,0))∧W'.heap[z+2]?=some (.cells #[.int .i64 8,.bool b2,.int .i64 n2,.string t2,.string x2,sb] 39 (0,0))) (by kernel_rfl) s5.out (λhH=>?_)
 refine Boxed.out ?_
 refine tkV 0 82 (.pointer (some ⟨z+1,3,none⟩)) hH (λhH=>?_)
 try simp only[Act.put,aT,aZ,aS]
 refine tkW 1 83 (.string t1) hH (λw hSw=>?_) (λhH=>?_)
 ·have p:=cell_of_heap hSw.1 3
  unfold runsTo
  go_simp
 try simp only[Act.put,aT,aZ,aS]
 refine tkV 2 84 (.pointer (some ⟨z+2,3,none⟩)) hH (λhH=>?_)
 try simp only[Act.put,aT,aZ,aS]
 refine tkW 3 85 (.string t2) hH (λw hSw=>?_) (λhH=>?_)
 ·have p:=cell_of_heap hSw.2 3
  unfold runsTo
  go_simp
 try simp only[Act.put,aT,aZ,aS]
 refine tkV 5 87 (.pointer (some ⟨z+1,4,none⟩)) hH (λhH=>?_)
 try simp only[Act.put,aT,aZ,aS]
 refine tkW 6 88 (.string x1) hH (λw hSw=>?_) (λhH=>?_)
 ·have p:=cell_of_heap hSw.1 4
  unfold runsTo
  go_simp
 try simp only[Act.put,aT,aZ,aS]
 refine tkV 7 89 (.pointer (some ⟨z+2,4,none⟩)) hH (λhH=>?_)
 try simp only[Act.put,aT,aZ,aS]
 refine tkW 8 90 (.string x2) hH (λw hSw=>?_) (λhH=>?_)
 ·have p:=cell_of_heap hSw.2 4
  unfold runsTo
  go_simp
 try simp only[Act.put,aT,aZ,aS]
 refine tkC 4 (λK hK=>?_)
 change Oper.wp _ ⟨some 86,_,_,_,_,_⟩ _ _ _ _
 go_simp
 refine (hs1.out _).mono ?_
 rintro e w6 ⟨rfl,hw6⟩
 subst w6
 dsimp only
 refine hK.out _ _ s5.out (λhH=>?_)
 clear hK K
 try simp only[Act.put,aT,aZ,aS]
 refine tkC 9 (λK hK=>?_)
 change Oper.wp _ ⟨some 91,_,_,_,_,_⟩ _ _ _ _
 go_simp
 refine (hs2.out _).mono ?_
 rintro e w6 ⟨rfl,hw6⟩
 subst w6
 dsimp only
 refine hK.out _ _ s5.out (λhH=>?_)
 clear hK K
 try simp only[Act.put,aT,aZ,aS]
 have HS6:=hid (show (w5.drew.alloc (.cells #[.int .i64 u1,.int .i64 u2] 3)).heap[z+1]?=some (.cells #[.int .i64 8,.bool b1,.int .i64 n1,.string t1,.string x1,sa] 39 (0,0))∧(w5.drew.alloc (.cells #[.int .i64 u1,.int .i64 u2] 3)).heap[z+2]?=some (.cells #[.int .i64 8,.bool b2,.int .i64 n2,.string t2,.string x2,sb] 39 (0,0)) from ⟨(Below.heap_alloc _ _ _ (blk_lt HT.out.1)).trans HT.out.1,(Below.heap_alloc _ _ _ (blk_lt HT.out.2)).trans HT.out.2⟩)
 have HG6:=hid ((HG5.out.drew).alloc (Nat.le_trans HG5.out.size (Nat.le_refl _)) (.cells #[.int .i64 u1,.int .i64 u2] 3))
 have hor:=hid (or2_any u1 u2 w5.heap.size 2 (w5.drew.alloc (.cells #[.int .i64 u1,.int .i64 u2] 3)) (cell_of_heap (heap_alloc_new w5.drew _) 0) (cell_of_heap (heap_alloc_new w5.drew _) 1))
 rw[←HV.out]at hor
 refine tkC 10 (λK hK=>?_)
 change Oper.wp _ ⟨some 92,_,_,_,_,_⟩ _ _ _ _
 go_simp
 refine hK.out _ _ HS6.out (λhH=>?_)
 clear hK K
 try simp only[Act.put,aT,aZ,aS]
 refine tkC 11 (λK hK=>?_)
 change Oper.wp _ ⟨some 93,_,_,_,_,_⟩ _ _ _ _
 go_simp
 refine (hor.out).mono ?_
 rintro e w6 ⟨rfl,hw6⟩
 subst w6
 dsimp only
 refine hK.out _ _ HS6.out (λhH=>?_)
 clear hK K
 try simp only[Act.put,aT,aZ,aS]
 refine tkV 12 6 (.int .i64 v) hH (λhH=>?_)
 try simp only[Act.put,aT,aZ,aS]
 refine⟨wpAnyH_done (by kernel_rfl) ?_ _⟩
 clear hH
 go_wp2_with fail
 go_ret
 exact HE.out _ HG6.out
theorem ordP_text9 (a b:Val) (sa sb:Value) (w:World) (ha:a.kind=9) (hb:b.kind=9) :
    Calls Tryz.prog 68 #[.int .i64 1,.agg (cellsV a sa),.agg (cellsV b sb)] w (OrdIs a b w):=by
 have hr1:=hid (λW:World=>rankP_any a sa W)
 have hr2:=hid (λW:World=>rankP_any b sb W)
 have hci:=hid (λW:World=>cmpInt_any (rankS a.kind) (rankS b.kind) W)
 have HC:=hid (show cmpI (rankS a.kind) (rankS b.kind)=0 from by rw[ha,hb];decide)
 have HV:=hid (show ordV a b=thenC (cmpS a.text.data.toList b.text.data.toList) (cmpS a.extra.data.toList b.extra.data.toList) from ordV_text (by rw[ha,hb]) (by rw[ha];decide) (by omega))
 have hs1:=hid (λW:World=>cmpStr_any a.text b.text W)
 have hs2:=hid (λW:World=>cmpStr_any a.extra b.extra W)
 obtain⟨u1,Hu1⟩:=name_itV (cmpS a.text.data.toList b.text.data.toList)
 obtain⟨u2,Hu2⟩:=name_itV (cmpS a.extra.data.toList b.extra.data.toList)
 rw[Hu1.out,Hu2.out]at HV
 rw[Hu1.out]at hs1
 rw[Hu2.out]at hs2
 clear Hu1 Hu2
 unfold RankIs at hr1 hr2
 obtain⟨v,Hv⟩:=name_itV (ordV a b)
 have HE:=hid (show ∀w',Below w.heap.size w w'→OrdIs a b w (.returned (.int .i64 v)) w' from λw' hb=>⟨by rw[Hv.out],hb⟩)
 rw[Hv.out]at HV
 clear Hv
 obtain⟨r1,H1⟩:=name_itV (rankS a.kind)
 obtain⟨r2,H2⟩:=name_itV (rankS b.kind)
 rw[H1.out]at hr1
 rw[H2.out]at hr2
 rw[H1.out,H2.out]at hci HC
 clear H1 H2
 obtain⟨c1,Hc1⟩:=name6 a sa
 obtain⟨c2,Hc2⟩:=name6 b sb
 rw[Hc1.out]at hr1 ⊢
 rw[Hc2.out]at hr2 ⊢
 have Q1:=hid Hc1.size
 have Q2:=hid Hc2.size
 obtain⟨z,Hz⟩:=name_itV w.heap.size
 obtain⟨w1,HW1⟩:=name_itV (((w.alloc (.cells #[.int .i64 1] 3)).alloc (.cells c1 39)).alloc (.cells c2 39))
 have HB:=hid (show Below w.heap.size w w1 from by rw[←HW1.out];exact (two_new w _ _).alloc (by simp;omega) _)
 have HL:=hid (show w1.heap[z]?=some (.cells #[.int .i64 1] 3 (0,0)) from by rw[←HW1.out,←Hz.out];exact alloc3_0 w _ _ _)
 have HX:=hid (show w1.heap[z+1]?=some (.cells c1 39 (0,0)) from by rw[←HW1.out,←Hz.out];exact alloc3_1 w _ _ _)
 have HY:=hid (show w1.heap[z+2]?=some (.cells c2 39 (0,0)) from by rw[←HW1.out,←Hz.out];exact alloc3_2 w _ _ _)
 go_enter Tryz.func68,Tryz.ntmps68
 go_upto_region 1 with fail
 rw[HW1.out,Hz.out]
 clear HW1
 have s1:=hid (show w1.drew.heap[z]?=some (.cells #[.int .i64 1] 3 (0,0))∧w1.drew.heap[z+1]?=some (.cells c1 39 (0,0))∧w1.drew.heap[z+2]?=some (.cells c2 39 (0,0)) from ⟨HL.out,HX.out,HY.out⟩)
 refine wp_region_held_drew (S:=λW'=>W'.heap[z]?=some (.cells #[.int .i64 1] 3 (0,0))∧W'.heap[z+1]?=some (.cells c1 39 (0,0))∧W'.heap[z+2]?=some (.cells c2 39 (0,0))) (by kernel_rfl) s1.out (λhH=>?_)
 refine Boxed.out ?_
 refine tkW 0 13 (.int .i64 1) hH (λw hSw=>?_) (λhH=>?_)
 ·have p:=cell_of_heap hSw.1 0
  unfold runsTo
  go_simp
 try simp only[Act.put,aT,aZ,aS]
 refine tkW 1 14 (.agg c1) hH (λw hSw=>?_) (λhH=>?_)
 ·exact val_of (ld_run hSw.2.1 39 _ Tryz.underlying39 rfl (by rw[Q1.out];kernel_rfl))
 try simp only[Act.put,aT,aZ,aS]
 refine tkW 3 16 (.int .i64 1) hH (λw hSw=>?_) (λhH=>?_)
 ·have p:=cell_of_heap hSw.1 0
  unfold runsTo
  go_simp
 try simp only[Act.put,aT,aZ,aS]
 refine tkW 4 17 (.agg c2) hH (λw hSw=>?_) (λhH=>?_)
 ·exact val_of (ld_run hSw.2.2 39 _ Tryz.underlying39 rfl (by rw[Q2.out];kernel_rfl))
 try simp only[Act.put,aT,aZ,aS]
 refine tkC 2 (λK hK=>?_)
 change Oper.wp _ ⟨some 15,_,_,_,_,_⟩ _ _ _ _
 go_simp
 refine (hr1.out w1.drew).mono ?_
 rintro e w2 ⟨rfl,hb2⟩
 have HB2:=hid (show Below w1.heap.size w1 w2 from below_of_dr hb2)
 have HS2:=hid (show w2.heap[z]?=some (.cells #[.int .i64 1] 3 (0,0))∧w2.heap[z+1]?=some (.cells c1 39 (0,0))∧w2.heap[z+2]?=some (.cells c2 39 (0,0)) from ⟨(HB2.out.block z (blk_lt HL.out)).trans HL.out,(HB2.out.block (z+1) (blk_lt HX.out)).trans HX.out,(HB2.out.block (z+2) (blk_lt HY.out)).trans HY.out⟩)
 clear hb2
 dsimp only
 refine hK.out _ _ HS2.out (λhH=>?_)
 clear hK K
 try simp only[Act.put,aT,aZ,aS]
 refine tkC 5 (λK hK=>?_)
 change Oper.wp _ ⟨some 18,_,_,_,_,_⟩ _ _ _ _
 go_simp
 refine (hr2.out w2).mono ?_
 rintro e w3 ⟨rfl,hb3⟩
 have HB3:=hid (HB2.out.trans (hb3.mono HB2.out.size))
 have HS3:=hid (show w3.heap[z]?=some (.cells #[.int .i64 1] 3 (0,0))∧w3.heap[z+1]?=some (.cells c1 39 (0,0))∧w3.heap[z+2]?=some (.cells c2 39 (0,0)) from ⟨(HB3.out.block z (blk_lt HL.out)).trans HL.out,(HB3.out.block (z+1) (blk_lt HX.out)).trans HX.out,(HB3.out.block (z+2) (blk_lt HY.out)).trans HY.out⟩)
 clear hb3
 dsimp only
 refine hK.out _ _ HS3.out (λhH=>?_)
 clear hK K
 try simp only[Act.put,aT,aZ,aS]
 refine tkC 6 (λK hK=>?_)
 change Oper.wp _ ⟨some 19,_,_,_,_,_⟩ _ _ _ _
 go_simp
 refine (hci.out w3).mono ?_
 rintro e w4 ⟨rfl,hw4⟩
 subst w4
 dsimp only
 refine hK.out _ _ HS3.out (λhH=>?_)
 clear hK K
 try simp only[Act.put,aT,aZ,aS]
 rw[HC.out]
 refine tkV 7 7 (.int .i64 0) hH (λhH=>?_)
 try simp only[Act.put,aT,aZ,aS]
 refine⟨wpAnyH_done (by kernel_rfl) ?_ _⟩
 clear hH
 have HG:=hid (HB.out.trans (HB3.out.mono HB.out.size))
 clear hr1 hr2 hci HL HX HY HB2 HS2 s1
 have HS:=hid (show w3.heap[z+1]?=some (.cells (cellsV a sa) 39 (0,0))∧w3.heap[z+2]?=some (.cells (cellsV b sb) 39 (0,0)) from by rw[Hc1.out,Hc2.out];exact⟨HS3.out.2.1,HS3.out.2.2⟩)
 clear HS3 Q1 Q2 Hc1 Hc2
 have hpt:=hid (λW:World=>part_any a sa W)
 unfold PartIs at hpt
 cases a with
 | mk k1 b1 n1 t1 x1 l1=>
 cases b with
 | mk k2 b2 n2 t2 x2 l2=>
 unfold cellsV at HS hpt 
 simp only[Val.kind,Val.truth,Val.num,Val.text,Val.extra]at HS hpt hs1 hs2 ha hb
 subst ha
 subst hb
 have hpt:=hid (λW:World=>(show Calls Tryz.prog 128 #[.agg #[.int .i64 9,.bool b1,.int .i64 n1,.string t1,.string x1,sa]] W (λe w'=>e = .returned (.iface 234 (.string t1))∧Below W.heap.size W w') from hpt.out W))
 have as_whole:=ao_words_whole (.string t1)
 have as_broken:=ao_words_broken (.string t1)
 have as_list:=ao_words_list (.string t1)
 have as_thing:=ao_words_thing (.string t1)
 have as_boolean:=ao_words_boolean (.string t1)
 have p0:w3.cell? ⟨z+1,0,none⟩=some (.int .i64 9):=cell_of_heap HS.out.1 0
 have p1:w3.cell? ⟨z+1,1,none⟩=some (.bool b1):=cell_of_heap HS.out.1 1
 have p2:w3.cell? ⟨z+1,2,none⟩=some (.int .i64 n1):=cell_of_heap HS.out.1 2
 have p3:w3.cell? ⟨z+1,3,none⟩=some (.string t1):=cell_of_heap HS.out.1 3
 have p4:w3.cell? ⟨z+1,4,none⟩=some (.string x1):=cell_of_heap HS.out.1 4
 have p5:w3.cell? ⟨z+1,5,none⟩=some sa:=cell_of_heap HS.out.1 5
 go_wp2_with fail
 refine (hpt.out _).mono ?_
 rintro e w5 ⟨rfl,hb5⟩
 clear hpt p0 p1 p2 p3 p4 p5
 have HG5:=hid (HG.out.trans (hb5.mono HG.out.size))
 have HT:=hid (show w5.heap[z+1]?=some (.cells #[.int .i64 9,.bool b1,.int .i64 n1,.string t1,.string x1,sa] 39 (0,0))∧w5.heap[z+2]?=some (.cells #[.int .i64 9,.bool b2,.int .i64 n2,.string t2,.string x2,sb] 39 (0,0)) from ⟨(hb5.block _ (blk_lt HS.out.1)).trans HS.out.1,(hb5.block _ (blk_lt HS.out.2)).trans HS.out.2⟩)
 clear hb5 HS HG HB3 HB
 go_upto_region 22 with fail
 have s5:=hid (show w5.drew.heap[z+1]?=some (.cells #[.int .i64 9,.bool b1,.int .i64 n1,.string t1,.string x1,sa] 39 (0,0))∧w5.drew.heap[z+2]?=some (.cells #[.int .i64 9,.bool b2,.int .i64 n2,.string t2,.string x2,sb] 39 (0,0)) from HT.out)
 refine wp_region_held_drew (S:=λW'=>W'.heap[z+1]?=some (.cells #[.int .i64 9,.bool b1,.int .i64 n1,.string t1,.string x1,sa] 39 (0,0))∧W'.heap[z+2]?=some (.cells #[.int .i64 9,.bool b2,.int .i64 n2,.string t2,.string x2,sb] 39 (0,0))) (by kernel_rfl) s5.out (λhH=>?_)
 refine Boxed.out ?_
 refine tkV 0 82 (.pointer (some ⟨z+1,3,none⟩)) hH (λhH=>?_)
 try simp only[Act.put,aT,aZ,aS]
 refine tkW 1 83 (.string t1) hH (λw hSw=>?_) (λhH=>?_)
 ·have p:=cell_of_heap hSw.1 3
  unfold runsTo
  go_simp
 try simp only[Act.put,aT,aZ,aS]
 refine tkV 2 84 (.pointer (some ⟨z+2,3,none⟩)) hH (λhH=>?_)
 try simp only[Act.put,aT,aZ,aS]
 refine tkW 3 85 (.string t2) hH (λw hSw=>?_) (λhH=>?_)
 ·have p:=cell_of_heap hSw.2 3
  unfold runsTo
  go_simp
 try simp only[Act.put,aT,aZ,aS]
 refine tkV 5 87 (.pointer (some ⟨z+1,4,none⟩)) hH (λhH=>?_)
 try simp only[Act.put,aT,aZ,aS]
 refine tkW 6 88 (.string x1) hH (λw hSw=>?_) (λhH=>?_)
 ·have p:=cell_of_heap hSw.1 4
  unfold runsTo
  go_simp
 try simp only[Act.put,aT,aZ,aS]
 refine tkV 7 89 (.pointer (some ⟨z+2,4,none⟩)) hH (λhH=>?_)
 try simp only[Act.put,aT,aZ,aS]
 refine tkW 8 90 (.string x2) hH (λw hSw=>?_) (λhH=>?_)
 ·have p:=cell_of_heap hSw.2 4
  unfold runsTo
  go_simp
 try simp only[Act.put,aT,aZ,aS]
 refine tkC 4 (λK hK=>?_)
 change Oper.wp _ ⟨some 86,_,_,_,_,_⟩ _ _ _ _
 go_simp
 refine (hs1.out _).mono ?_
 rintro e w6 ⟨rfl,hw6⟩
 subst w6
 dsimp only
 refine hK.out _ _ s5.out (λhH=>?_)
 clear hK K
 try simp only[Act.put,aT,aZ,aS]
 refine tkC 9 (λK hK=>?_)
 change Oper.wp _ ⟨some 91,_,_,_,_,_⟩ _ _ _ _
 go_simp
 refine (hs2.out _).mono ?_
 rintro e w6 ⟨rfl,hw6⟩
 subst w6
 dsimp only
 refine hK.out _ _ s5.out (λhH=>?_)
 clear hK K
 try simp only[Act.put,aT,aZ,aS]
 have HS6:=hid (show (w5.drew.alloc (.cells #[.int .i64 u1,.int .i64 u2] 3)).heap[z+1]?=some (.cells #[.int .i64 9,.bool b1,.int .i64 n1,.string t1,.string x1,sa] 39 (0,0))∧(w5.drew.alloc (.cells #[.int .i64 u1,.int .i64 u2] 3)).heap[z+2]?=some (.cells #[.int .i64 9,.bool b2,.int .i64 n2,.string t2,.string x2,sb] 39 (0,0)) from ⟨(Below.heap_alloc _ _ _ (blk_lt HT.out.1)).trans HT.out.1,(Below.heap_alloc _ _ _ (blk_lt HT.out.2)).trans HT.out.2⟩)
 have HG6:=hid ((HG5.out.drew).alloc (Nat.le_trans HG5.out.size (Nat.le_refl _)) (.cells #[.int .i64 u1,.int .i64 u2] 3))
 have hor:=hid (or2_any u1 u2 w5.heap.size 2 (w5.drew.alloc (.cells #[.int .i64 u1,.int .i64 u2] 3)) (cell_of_heap (heap_alloc_new w5.drew _) 0) (cell_of_heap (heap_alloc_new w5.drew _) 1))
 rw[←HV.out]at hor
 refine tkC 10 (λK hK=>?_)
 change Oper.wp _ ⟨some 92,_,_,_,_,_⟩ _ _ _ _
 go_simp
 refine hK.out _ _ HS6.out (λhH=>?_)
 clear hK K
 try simp only[Act.put,aT,aZ,aS]
 refine tkC 11 (λK hK=>?_)
 change Oper.wp _ ⟨some 93,_,_,_,_,_⟩ _ _ _ _
 go_simp
 refine (hor.out).mono ?_
 rintro e w6 ⟨rfl,hw6⟩
 subst w6
 dsimp only
 refine hK.out _ _ HS6.out (λhH=>?_)
 clear hK K
 try simp only[Act.put,aT,aZ,aS]
 refine tkV 12 6 (.int .i64 v) hH (λhH=>?_)
 try simp only[Act.put,aT,aZ,aS]
 refine⟨wpAnyH_done (by kernel_rfl) ?_ _⟩
 clear hH
 go_wp2_with fail
 go_ret
 exact HE.out _ HG6.out
theorem ordP_text10 (a b:Val) (sa sb:Value) (w:World) (ha:a.kind=10) (hb:b.kind=10) :
    Calls Tryz.prog 68 #[.int .i64 1,.agg (cellsV a sa),.agg (cellsV b sb)] w (OrdIs a b w):=by
 have hr1:=hid (λW:World=>rankP_any a sa W)
 have hr2:=hid (λW:World=>rankP_any b sb W)
 have hci:=hid (λW:World=>cmpInt_any (rankS a.kind) (rankS b.kind) W)
 have HC:=hid (show cmpI (rankS a.kind) (rankS b.kind)=0 from by rw[ha,hb];decide)
 have HV:=hid (show ordV a b=thenC (cmpS a.text.data.toList b.text.data.toList) (cmpS a.extra.data.toList b.extra.data.toList) from ordV_text (by rw[ha,hb]) (by rw[ha];decide) (by omega))
 have hs1:=hid (λW:World=>cmpStr_any a.text b.text W)
 have hs2:=hid (λW:World=>cmpStr_any a.extra b.extra W)
 obtain⟨u1,Hu1⟩:=name_itV (cmpS a.text.data.toList b.text.data.toList)
 obtain⟨u2,Hu2⟩:=name_itV (cmpS a.extra.data.toList b.extra.data.toList)
 rw[Hu1.out,Hu2.out]at HV
 rw[Hu1.out]at hs1
 rw[Hu2.out]at hs2
 clear Hu1 Hu2
 unfold RankIs at hr1 hr2
 obtain⟨v,Hv⟩:=name_itV (ordV a b)
 have HE:=hid (show ∀w',Below w.heap.size w w'→OrdIs a b w (.returned (.int .i64 v)) w' from λw' hb=>⟨by rw[Hv.out],hb⟩)
 rw[Hv.out]at HV
 clear Hv
 obtain⟨r1,H1⟩:=name_itV (rankS a.kind)
 obtain⟨r2,H2⟩:=name_itV (rankS b.kind)
 rw[H1.out]at hr1
 rw[H2.out]at hr2
 rw[H1.out,H2.out]at hci HC
 clear H1 H2
 obtain⟨c1,Hc1⟩:=name6 a sa
 obtain⟨c2,Hc2⟩:=name6 b sb
 rw[Hc1.out]at hr1 ⊢
 rw[Hc2.out]at hr2 ⊢
 have Q1:=hid Hc1.size
 have Q2:=hid Hc2.size
 obtain⟨z,Hz⟩:=name_itV w.heap.size
 obtain⟨w1,HW1⟩:=name_itV (((w.alloc (.cells #[.int .i64 1] 3)).alloc (.cells c1 39)).alloc (.cells c2 39))
 have HB:=hid (show Below w.heap.size w w1 from by rw[←HW1.out];exact (two_new w _ _).alloc (by simp;omega) _)
 have HL:=hid (show w1.heap[z]?=some (.cells #[.int .i64 1] 3 (0,0)) from by rw[←HW1.out,←Hz.out];exact alloc3_0 w _ _ _)
 have HX:=hid (show w1.heap[z+1]?=some (.cells c1 39 (0,0)) from by rw[←HW1.out,←Hz.out];exact alloc3_1 w _ _ _)
 have HY:=hid (show w1.heap[z+2]?=some (.cells c2 39 (0,0)) from by rw[←HW1.out,←Hz.out];exact alloc3_2 w _ _ _)
 go_enter Tryz.func68,Tryz.ntmps68
 go_upto_region 1 with fail
 rw[HW1.out,Hz.out]
 clear HW1
 have s1:=hid (show w1.drew.heap[z]?=some (.cells #[.int .i64 1] 3 (0,0))∧w1.drew.heap[z+1]?=some (.cells c1 39 (0,0))∧w1.drew.heap[z+2]?=some (.cells c2 39 (0,0)) from ⟨HL.out,HX.out,HY.out⟩)
 refine wp_region_held_drew (S:=λW'=>W'.heap[z]?=some (.cells #[.int .i64 1] 3 (0,0))∧W'.heap[z+1]?=some (.cells c1 39 (0,0))∧W'.heap[z+2]?=some (.cells c2 39 (0,0))) (by kernel_rfl) s1.out (λhH=>?_)
 refine Boxed.out ?_
 refine tkW 0 13 (.int .i64 1) hH (λw hSw=>?_) (λhH=>?_)
 ·have p:=cell_of_heap hSw.1 0
  unfold runsTo
  go_simp
 try simp only[Act.put,aT,aZ,aS]
 refine tkW 1 14 (.agg c1) hH (λw hSw=>?_) (λhH=>?_)
 ·exact val_of (ld_run hSw.2.1 39 _ Tryz.underlying39 rfl (by rw[Q1.out];kernel_rfl))
 try simp only[Act.put,aT,aZ,aS]
 refine tkW 3 16 (.int .i64 1) hH (λw hSw=>?_) (λhH=>?_)
 ·have p:=cell_of_heap hSw.1 0
  unfold runsTo
  go_simp
 try simp only[Act.put,aT,aZ,aS]
 refine tkW 4 17 (.agg c2) hH (λw hSw=>?_) (λhH=>?_)
 ·exact val_of (ld_run hSw.2.2 39 _ Tryz.underlying39 rfl (by rw[Q2.out];kernel_rfl))
 try simp only[Act.put,aT,aZ,aS]
 refine tkC 2 (λK hK=>?_)
 change Oper.wp _ ⟨some 15,_,_,_,_,_⟩ _ _ _ _
 go_simp
 refine (hr1.out w1.drew).mono ?_
 rintro e w2 ⟨rfl,hb2⟩
 have HB2:=hid (show Below w1.heap.size w1 w2 from below_of_dr hb2)
 have HS2:=hid (show w2.heap[z]?=some (.cells #[.int .i64 1] 3 (0,0))∧w2.heap[z+1]?=some (.cells c1 39 (0,0))∧w2.heap[z+2]?=some (.cells c2 39 (0,0)) from ⟨(HB2.out.block z (blk_lt HL.out)).trans HL.out,(HB2.out.block (z+1) (blk_lt HX.out)).trans HX.out,(HB2.out.block (z+2) (blk_lt HY.out)).trans HY.out⟩)
 clear hb2
 dsimp only
 refine hK.out _ _ HS2.out (λhH=>?_)
 clear hK K
 try simp only[Act.put,aT,aZ,aS]
 refine tkC 5 (λK hK=>?_)
 change Oper.wp _ ⟨some 18,_,_,_,_,_⟩ _ _ _ _
 go_simp
 refine (hr2.out w2).mono ?_
 rintro e w3 ⟨rfl,hb3⟩
 have HB3:=hid (HB2.out.trans (hb3.mono HB2.out.size))
 have HS3:=hid (show w3.heap[z]?=some (.cells #[.int .i64 1] 3 (0,0))∧w3.heap[z+1]?=some (.cells c1 39 (0,0))∧w3.heap[z+2]?=some (.cells c2 39 (0,0)) from ⟨(HB3.out.block z (blk_lt HL.out)).trans HL.out,(HB3.out.block (z+1) (blk_lt HX.out)).trans HX.out,(HB3.out.block (z+2) (blk_lt HY.out)).trans HY.out⟩)
 clear hb3
 dsimp only
 refine hK.out _ _ HS3.out (λhH=>?_)
 clear hK K
 try simp only[Act.put,aT,aZ,aS]
 refine tkC 6 (λK hK=>?_)
 change Oper.wp _ ⟨some 19,_,_,_,_,_⟩ _ _ _ _
 go_simp
 refine (hci.out w3).mono ?_
 rintro e w4 ⟨rfl,hw4⟩
 subst w4
 dsimp only
 refine hK.out _ _ HS3.out (λhH=>?_)
 clear hK K
 try simp only[Act.put,aT,aZ,aS]
 rw[HC.out]
 refine tkV 7 7 (.int .i64 0) hH (λhH=>?_)
 try simp only[Act.put,aT,aZ,aS]
 refine⟨wpAnyH_done (by kernel_rfl) ?_ _⟩
 clear hH
 have HG:=hid (HB.out.trans (HB3.out.mono HB.out.size))
 clear hr1 hr2 hci HL HX HY HB2 HS2 s1
 have HS:=hid (show w3.heap[z+1]?=some (.cells (cellsV a sa) 39 (0,0))∧w3.heap[z+2]?=some (.cells (cellsV b sb) 39 (0,0)) from by rw[Hc1.out,Hc2.out];exact⟨HS3.out.2.1,HS3.out.2.2⟩)
 clear HS3 Q1 Q2 Hc1 Hc2
 have hpt:=hid (λW:World=>part_any a sa W)
 unfold PartIs at hpt
 cases a with
 | mk k1 b1 n1 t1 x1 l1=>
 cases b with
 | mk k2 b2 n2 t2 x2 l2=>
 unfold cellsV at HS hpt 
 simp only[Val.kind,Val.truth,Val.num,Val.text,Val.extra]at HS hpt hs1 hs2 ha hb
 subst ha
 subst hb
 have hpt:=hid (λW:World=>(show Calls Tryz.prog 128 #[.agg #[.int .i64 10,.bool b1,.int .i64 n1,.string t1,.string x1,sa]] W (λe w'=>e = .returned (.iface 237 (.agg #[.string t1,.string x1]))∧Below W.heap.size W w') from hpt.out W))
 have as_whole:=ao_literal_whole (.agg #[.string t1,.string x1])
 have as_broken:=ao_literal_broken (.agg #[.string t1,.string x1])
 have as_list:=ao_literal_list (.agg #[.string t1,.string x1])
 have as_thing:=ao_literal_thing (.agg #[.string t1,.string x1])
 have as_boolean:=ao_literal_boolean (.agg #[.string t1,.string x1])
 have p0:w3.cell? ⟨z+1,0,none⟩=some (.int .i64 10):=cell_of_heap HS.out.1 0
 have p1:w3.cell? ⟨z+1,1,none⟩=some (.bool b1):=cell_of_heap HS.out.1 1
 have p2:w3.cell? ⟨z+1,2,none⟩=some (.int .i64 n1):=cell_of_heap HS.out.1 2
 have p3:w3.cell? ⟨z+1,3,none⟩=some (.string t1):=cell_of_heap HS.out.1 3
 have p4:w3.cell? ⟨z+1,4,none⟩=some (.string x1):=cell_of_heap HS.out.1 4
 have p5:w3.cell? ⟨z+1,5,none⟩=some sa:=cell_of_heap HS.out.1 5
 go_wp2_with fail
 refine (hpt.out _).mono ?_
 rintro e w5 ⟨rfl,hb5⟩
 clear hpt p0 p1 p2 p3 p4 p5
 have HG5:=hid (HG.out.trans (hb5.mono HG.out.size))
 have HT:=hid (show w5.heap[z+1]?=some (.cells #[.int .i64 10,.bool b1,.int .i64 n1,.string t1,.string x1,sa] 39 (0,0))∧w5.heap[z+2]?=some (.cells #[.int .i64 10,.bool b2,.int .i64 n2,.string t2,.string x2,sb] 39 (0,0)) from ⟨(hb5.block _ (blk_lt HS.out.1)).trans HS.out.1,(hb5.block _ (blk_lt HS.out.2)).trans HS.out.2⟩)
 clear hb5 HS HG HB3 HB
 go_upto_region 22 with fail
 have s5:=hid (show w5.drew.heap[z+1]?=some (.cells #[.int .i64 10,.bool b1,.int .i64 n1,.string t1,.string x1,sa] 39 (0,0))∧w5.drew.heap[z+2]?=some (.cells #[.int .i64 10,.bool b2,.int .i64 n2,.string t2,.string x2,sb] 39 (0,0)) from HT.out)
 refine wp_region_held_drew (S:=λW'=>W'.heap[z+1]?=some (.cells #[.int .i64 10,.bool b1,.int .i64 n1,.string t1,.string x1,sa] 39 (0,0))∧W'.heap[z+2]?=some (.cells #[.int .i64 10,.bool b2,.int .i64 n2,.string t2,.string x2,sb] 39 (0,0))) (by kernel_rfl) s5.out (λhH=>?_)
 refine Boxed.out ?_
 refine tkV 0 82 (.pointer (some ⟨z+1,3,none⟩)) hH (λhH=>?_)
 try simp only[Act.put,aT,aZ,aS]
 refine tkW 1 83 (.string t1) hH (λw hSw=>?_) (λhH=>?_)
 ·have p:=cell_of_heap hSw.1 3
  unfold runsTo
  go_simp
 try simp only[Act.put,aT,aZ,aS]
 refine tkV 2 84 (.pointer (some ⟨z+2,3,none⟩)) hH (λhH=>?_)
 try simp only[Act.put,aT,aZ,aS]
 refine tkW 3 85 (.string t2) hH (λw hSw=>?_) (λhH=>?_)
 ·have p:=cell_of_heap hSw.2 3
  unfold runsTo
  go_simp
 try simp only[Act.put,aT,aZ,aS]
 refine tkV 5 87 (.pointer (some ⟨z+1,4,none⟩)) hH (λhH=>?_)
 try simp only[Act.put,aT,aZ,aS]
 refine tkW 6 88 (.string x1) hH (λw hSw=>?_) (λhH=>?_)
 ·have p:=cell_of_heap hSw.1 4
  unfold runsTo
  go_simp
 try simp only[Act.put,aT,aZ,aS]
 refine tkV 7 89 (.pointer (some ⟨z+2,4,none⟩)) hH (λhH=>?_)
 try simp only[Act.put,aT,aZ,aS]
 refine tkW 8 90 (.string x2) hH (λw hSw=>?_) (λhH=>?_)
 ·have p:=cell_of_heap hSw.2 4
  unfold runsTo
  go_simp
 try simp only[Act.put,aT,aZ,aS]
 refine tkC 4 (λK hK=>?_)
 change Oper.wp _ ⟨some 86,_,_,_,_,_⟩ _ _ _ _
 go_simp
 refine (hs1.out _).mono ?_
 rintro e w6 ⟨rfl,hw6⟩
 subst w6
 dsimp only
 refine hK.out _ _ s5.out (λhH=>?_)
 clear hK K
 try simp only[Act.put,aT,aZ,aS]
 refine tkC 9 (λK hK=>?_)
 change Oper.wp _ ⟨some 91,_,_,_,_,_⟩ _ _ _ _
 go_simp
 refine (hs2.out _).mono ?_
 rintro e w6 ⟨rfl,hw6⟩
 subst w6
 dsimp only
 refine hK.out _ _ s5.out (λhH=>?_)
 clear hK K
 try simp only[Act.put,aT,aZ,aS]
 have HS6:=hid (show (w5.drew.alloc (.cells #[.int .i64 u1,.int .i64 u2] 3)).heap[z+1]?=some (.cells #[.int .i64 10,.bool b1,.int .i64 n1,.string t1,.string x1,sa] 39 (0,0))∧(w5.drew.alloc (.cells #[.int .i64 u1,.int .i64 u2] 3)).heap[z+2]?=some (.cells #[.int .i64 10,.bool b2,.int .i64 n2,.string t2,.string x2,sb] 39 (0,0)) from ⟨(Below.heap_alloc _ _ _ (blk_lt HT.out.1)).trans HT.out.1,(Below.heap_alloc _ _ _ (blk_lt HT.out.2)).trans HT.out.2⟩)
 have HG6:=hid ((HG5.out.drew).alloc (Nat.le_trans HG5.out.size (Nat.le_refl _)) (.cells #[.int .i64 u1,.int .i64 u2] 3))
 have hor:=hid (or2_any u1 u2 w5.heap.size 2 (w5.drew.alloc (.cells #[.int .i64 u1,.int .i64 u2] 3)) (cell_of_heap (heap_alloc_new w5.drew _) 0) (cell_of_heap (heap_alloc_new w5.drew _) 1))
 rw[←HV.out]at hor
 refine tkC 10 (λK hK=>?_)
 change Oper.wp _ ⟨some 92,_,_,_,_,_⟩ _ _ _ _
 go_simp
 refine hK.out _ _ HS6.out (λhH=>?_)
 clear hK K
 try simp only[Act.put,aT,aZ,aS]
 refine tkC 11 (λK hK=>?_)
 change Oper.wp _ ⟨some 93,_,_,_,_,_⟩ _ _ _ _
 go_simp
 refine (hor.out).mono ?_
 rintro e w6 ⟨rfl,hw6⟩
 subst w6
 dsimp only
 refine hK.out _ _ HS6.out (λhH=>?_)
 clear hK K
 try simp only[Act.put,aT,aZ,aS]
 refine tkV 12 6 (.int .i64 v) hH (λhH=>?_)
 try simp only[Act.put,aT,aZ,aS]
 refine⟨wpAnyH_done (by kernel_rfl) ?_ _⟩
 clear hH
 go_wp2_with fail
 go_ret
 exact HE.out _ HG6.out
theorem ordP_any (a b:Val) (sa sb:Value) (w:World) (hk:a.kind=1∨a.kind=2∨a.kind=3∨a.kind=4∨a.kind=8∨a.kind=9∨a.kind=10) (fa:FitV a) (fb:FitV b) (hgb:GlobB w) (hgt:GlobT w) :
    Calls Tryz.prog 68 #[.int .i64 1,.agg (cellsV a sa),.agg (cellsV b sb)] w (OrdIs a b w):=by
 by_cases hne:rankS a.kind=rankS b.kind
 ·rcases rank_same hne with e | ⟨e1,e2⟩ | e
  ·rcases hk with h | h | h | h | h | h | h
   ·exact ordP_bool a b sa sb w h (e▸h)
   ·exact ordP_22 a b sa sb w h (e▸h) fa fb hgb hgt
   ·exact ordP_33 a b sa sb w h (e▸h) fa fb hgb hgt
   ·exact ordP_text4 a b sa sb w h (e▸h)
   ·exact ordP_text8 a b sa sb w h (e▸h)
   ·exact ordP_text9 a b sa sb w h (e▸h)
   ·exact ordP_text10 a b sa sb w h (e▸h)
  ·rcases e1 with e1 | e1<;>rcases e2 with e2 | e2
   ·exact ordP_22 a b sa sb w e1 e2 fa fb hgb hgt
   ·exact ordP_23 a b sa sb w e1 e2 fa fb hgb hgt
   ·exact ordP_32 a b sa sb w e1 e2 fa fb hgb hgt
   ·exact ordP_33 a b sa sb w e1 e2 fa fb hgb hgt
  ·exfalso
   have h2:=e.1
   rcases hk with h | h | h | h | h | h | h<;>(rw[h]at h2;revert h2;decide)
 ·exact ordP_rank a b sa sb w hne
end Go.Proofs.YtefhfadjajcmkaaGreatDoor
