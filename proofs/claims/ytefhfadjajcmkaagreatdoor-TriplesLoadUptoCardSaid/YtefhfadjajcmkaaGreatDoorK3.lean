/- The program's decimals: what a text is read as, and whether it is a decimal (the walks). -/
import Derived.Test.YtefhfadjajcmkaaGreatDoorK2
import Derived.Laws.OwnMore
import Derived.Deep.RegionHeld3
import Derived.Lib.ItoaMem
set_option linter.unusedVariables false
set_option linter.unusedSimpArgs false
set_option maxRecDepth 100000
set_option maxHeartbeats 8000000
namespace Go.Proofs.YtefhfadjajcmkaaGreatDoor
open Go Go.RowKit
open Go.Lib (hid cell_of_heap)
theorem pt_shift {f:Nat→Nat} {k:Nat}:∀n,pt (λi=>if i<k then 0 else f (i-k)) (k+n)=pt f n*bT ^ k:=by
 intro n
 induction n with
 | zero=>
  rw[Nat.add_zero,pt,Nat.zero_mul]
  have:pt (λi=>if i<k then 0 else f (i-k)) k=pt (λ_=>0) k:=pt_congr λi hi=>if_pos hi
  rw[this]
  clear this
  induction k with
  | zero=>rfl
  | succ k ih=>rw[pt,ih,Nat.zero_mul]
 | succ n ih=>
  rw[←Nat.add_assoc,pt,ih,if_neg (by omega),Nat.add_sub_cancel_left,pt,Nat.add_mul,Nat.mul_assoc,←Nat.pow_add,Nat.add_comm n k]
theorem atD_pad (D:List Nat) (k i:Nat):atD (List.replicate k 0++D) i=if i<k then 0 else atD D (i-k):=by
 unfold atD
 by_cases h:i<k
 ·rw[if_pos h,List.getElem?_append_left (by rw[List.length_replicate];exact h),List.getElem?_replicate,if_pos h];rfl
 ·rw[if_neg h,List.getElem?_append_right (by rw[List.length_replicate];omega),List.length_replicate]
theorem amt_pad (D:List Nat) (k:Nat):amtD (List.replicate k 0++D)=amtD D*bT ^ k:=by
 unfold amtD
 rw[List.length_append,List.length_replicate,←pt_shift]
 exact pt_congr λi _=>atD_pad D k i
def ScaledIs (D:List Nat) (k:Nat) (w:World) (e:Ending) (w':World):Prop:=∃s,e = .returned s∧Below w.heap.size w w'∧w'.ownsRow 0 3 1 s (k+D.length) (intsV (List.replicate k 0++D))∧∀g,s.ownBlock=some g→w.heap.size≤g
theorem scaled_any (neg:Bool) (D:List Nat) (S k:Nat) (hD0:0<D.length) (hD:D.length≤1000000) (_hS:S≤1000000) (hk:k≤1000000) (A:Option Addr) (cap:Nat) (w:World) (h:IntsAt w A D) :
    Calls Tryz.prog 290 #[.agg #[.bool neg,.slice A D.length cap,.int .i64 (S:Int)],.int .i64 ((S+k:Nat):Int)] w (ScaledIs D k w):=by
 obtain⟨n,Hn⟩:=name_itV D.length
 obtain⟨z,Hz⟩:=name_itV w.heap.size
 obtain⟨ad,hA,_,_⟩:=h 0 _ (List.getElem?_eq_getElem hD0)
 subst hA
 have hcell:∀i u,(intsV D)[i]?=some u→w.cell? (ad.add i)=some u∧(ad.add i).block<w.heap.size:=λi u hu=>by
  unfold intsV at hu
  rw[List.getElem?_map]at hu
  cases hx:D[i]? with
  | none=>rw[hx]at hu;cases hu
  | some x=>
   rw[hx]at hu
   simp only[Option.map_some,Option.some.injEq]at hu
   obtain⟨ad',hA,h1,h2⟩:=h i x hx
   obtain rfl:ad=ad':=by injection hA
   subst hu
   exact⟨h2,h1⟩
 rw[Hn.out]at hD0 hD ⊢
 obtain⟨w1,HW1⟩:=name_itV (w.alloc (.cells #[.bool neg,.slice (some ad) n cap,.int .i64 (S:Int)] 277))
 have HB1:=hid (show Below w.heap.size w w1 from by rw[←HW1.out];exact (Below.refl _ _).alloc (Nat.le_refl _) _)
 have HK1:=hid (show w1.heap[z]?=some (.cells #[.bool neg,.slice (some ad) n cap,.int .i64 (S:Int)] 277 (0,0)) from by rw[←HW1.out,←Hz.out];exact heap_alloc_new w _)
 obtain⟨i0,hi0,hz0,hz1,hz2⟩:=info_parts infoInt
 obtain⟨wm,hrun,hrow,hgrow⟩:=run_makeSlice_full (P:=Tryz.prog) (w:=w1) z 94 3 i0 (.int .i64 0) 1 Tryz.underlying94 hi0 hz0 hz1 .i64 .i64 k (by omega) (by rw[hz2];omega) (by unfold maxLen;omega) (by rw[←Hz.out];exact HB1.out.size)
 have HRM:=hid (show wm.ownsRow z 3 1 (.slice (some ⟨w1.heap.size,0,none⟩) k k) k (List.replicate k (Value.int .i64 0)) from by
  have h1:=hrow
  rw[Nat.mul_one,show (Value.int IntKind.i64 0).cells=#[Value.int IntKind.i64 0] from rfl,toList_madeCells_one]at h1
  exact h1)
 have HBM:=hid (show Below w1.heap.size w1 wm from (Below.refl _ w1).grown hgrow (Nat.le_refl _) (λk hk=>by cases hk))
 have HCELL:=hid (λ(j:Nat) (u:Value) (hu:(intsV D)[j]?=some u)=>(show wm.cell? (ad.add j)=some u from (HBM.out.cell (Nat.lt_of_lt_of_le (hcell j u hu).2 HB1.out.size)).trans ((HB1.out.cell (hcell j u hu).2).trans (hcell j u hu).1)))
 have HZM:=hid ((HBM.out.block z (blk_lt HK1.out)).trans HK1.out)
 obtain⟨zm,Hzm⟩:=name_itV w1.heap.size
 rw[Hzm.out]at hrun HRM
 have c2:w1.cell? ⟨z,2,none⟩=some (.int .i64 (S:Int)):=cell_of_heap HK1.out 2
 have d1:wm.cell? ⟨z,1,none⟩=some (.slice (some ad) n cap):=cell_of_heap HZM.out 1
 have w0:IntKind.i64.wrap (((S+k:Nat):Int)-(S:Int))=(k:Int):=by rw[IntWalk.i64_in _ (by omega)];omega
 have w0':IntKind.i64.wrap ((S:Int)+(k:Int)-(S:Int))=(k:Int):=by rw[IntWalk.i64_in _ (by omega)];omega
 clear hrow hgrow hcell h
 go_enter Tryz.func290,Tryz.ntmps290
 go_upto_region 1 with fail
 rw[HW1.out,Hz.out]
 go_upto_region 2 with fail
 clear c2 hrun
 go_wp2_with (at_builtin;refine wpList_append_own _ rfl _ _ 94 rfl z 3 i0 (.int .i64 0) 1 8 Tryz.underlying94 hi0 hz0 hz1 hz2 rfl (by decide) (.slice (some ⟨zm,0,none⟩) k k) k (List.replicate k (Value.int .i64 0)) rfl HRM.out ad n cap (intsV D) rfl (by unfold intsV;rw[List.length_map,Hn.out,Nat.mul_one]) HCELL.out (λu hu=>by unfold intsV at hu;obtain⟨x,_,rfl⟩:=List.mem_map.1 hu;rfl) (by unfold maxLen;omega) (by omega) (by rw[←Hz.out];exact Nat.le_trans HB1.out.size HBM.out.size) ?_;intro v' w4 ho4 hg4 _;have HO4:=hid ho4;have HG4:=hid hg4;clear ho4 hg4)
 go_ret
 have hzw:w.heap.size≤zm:=by rw[←Hzm.out];exact HB1.out.size
 refine⟨v',rfl,?_,?_,?_⟩
 ·have h1:=HB1.out.trans (HBM.out.mono HB1.out.size)
  exact h1.grown HG4.out h1.size (λg hg=>by simp[Value.ownBlock]at hg;omega)
 ·rw[Hn.out]
  have h1:=own_base HO4.out (Nat.zero_le _)
  unfold intsV at h1 ⊢
  rw[List.map_append,List.map_replicate]
  exact h1
 ·exact λg hg=>by rw[Hz.out];exact (HO4.out.lt g hg).1
theorem below_of_dr {w w':World} (h:Below w.drew.heap.size w.drew w'):Below w.heap.size w w':=⟨h.os,h.tape,h.output,h.size,h.block⟩
theorem below_dN {b:Nat} {w w':World} (h:Below b w w') (m:Nat):Below b w (w'.drewN m):=⟨h.os,h.tape,h.output,h.size,h.block⟩
def sgV (b:Bool) (n:Nat):Int:=cond b (-(n:Int)) (n:Int)
theorem nine_pad {D:List Nat} (h:∀i,atD D i≤9) (k:Nat):∀i,atD (List.replicate k 0++D) i≤9:=λi=>by
 rw[atD_pad]
 split
 ·exact Nat.zero_le _
 ·exact h _
theorem ints_of_own {w:World} {s:Value} {O:List Nat} (h:w.ownsRow 0 3 1 s O.length (intsV O)):∃A cap,s = .slice A O.length cap∧IntsAt w A O:=by
 obtain⟨A,cap,rfl⟩:=slice_form h
 exact⟨A,cap,rfl,ints_own (D:=O) (cp:=cap) h⟩
def RPlusIs (n1:Bool) (V1:Nat) (n2:Bool) (V2:Nat) (w:World) (e:Ending) (w':World):Prop:=
 ∃(ng:Bool) (O:List Nat) (s:Value) (sc:Int),e = .returned (.agg #[.bool ng,s,.int .i64 sc])∧Below w.heap.size w w'∧w'.ownsRow 0 3 1 s O.length (intsV O)∧(∀i,atD O i≤9)∧O.length≤10000000∧sgV ng (amtD O)=sgV n1 V1+sgV n2 V2
theorem rplus_any (n1 n2:Bool) (D E:List Nat) (S1 S2:Nat) (hD0:0<D.length) (hE0:0<E.length) (hD:D.length≤100000) (hE:E.length≤100000) (hS1:S1≤100000) (hS2:S2≤100000) (hd:∀i,atD D i≤9) (he:∀i,atD E i≤9) (A B:Option Addr) (ca cb:Nat) (w:World) (h1:IntsAt w A D) (h2:IntsAt w B E) :
    Calls Tryz.prog 252 #[.agg #[.bool n1,.slice A D.length ca,.int .i64 (S1:Int)],.agg #[.bool n2,.slice B E.length cb,.int .i64 (S2:Int)]] w (RPlusIs n1 (amtD D*bT ^ (max S1 S2-S1)) n2 (amtD E*bT ^ (max S1 S2-S2)) w):=by
 have H1:=hid h1
 have H2:=hid h2
 have HD9:=hid hd
 have HE9:=hid he
 obtain⟨sc,Hsc⟩:=name_itV (max S1 S2)
 obtain⟨k1,Hk1⟩:=name_itV (sc-S1)
 obtain⟨k2,Hk2⟩:=name_itV (sc-S2)
 rw[Hsc.out,Hk1.out,Hk2.out]
 have hsc1:=hid (show sc=S1+k1 from by rw[←Hk1.out];have:S1≤sc:=by rw[←Hsc.out];exact Nat.le_max_left _ _
                                       omega)
 have hsc2:=hid (show sc=S2+k2 from by rw[←Hk2.out];have:S2≤sc:=by rw[←Hsc.out];exact Nat.le_max_right _ _
                                       omega)
 have hscl:sc≤100000:=by rw[←Hsc.out];exact Nat.max_le.2 ⟨hS1,hS2⟩
 have hk1:k1≤100000:=by have:=hsc1.out;omega
 have hk2:k2≤100000:=by have:=hsc2.out;omega
 have hsA:=hid (λ(W:World) (hW:Below w.heap.size w W)=>scaled_any n1 D S1 k1 hD0 (by omega) (by omega) (by omega) A ca W (H1.out.under hW))
 have hsB:=hid (λ(W:World) (hW:Below w.heap.size w W)=>scaled_any n2 E S2 k2 hE0 (by omega) (by omega) (by omega) B cb W (H2.out.under hW))
 rw[←hsc1.out]at hsA
 rw[←hsc2.out]at hsB
 obtain⟨n,Hn⟩:=name_itV D.length
 obtain⟨m,Hm⟩:=name_itV E.length
 rw[Hn.out]at hsA hD ⊢
 rw[Hm.out]at hsB hE ⊢
 obtain⟨z,Hz⟩:=name_itV w.heap.size
 obtain⟨w1,HW1⟩:=name_itV (((w.alloc (.cells #[.bool n1,.slice A n ca,.int .i64 (S1:Int)] 277)).alloc (.cells #[.bool n2,.slice B m cb,.int .i64 (S2:Int)] 277)).alloc (.cells #[.bool false,.slice none 0 0,.int .i64 0] 277))
 have HB1:=hid (show Below w.heap.size w w1 from by rw[←HW1.out];exact (two_new w _ _).alloc (by simp;omega) _)
 have HX1:=hid (show w1.heap[z]?=some (.cells #[.bool n1,.slice A n ca,.int .i64 (S1:Int)] 277 (0,0)) from by
  rw[←HW1.out,←Hz.out,Below.heap_alloc _ _ _ (by simp;omega),Below.heap_alloc _ _ _ (by simp)]
  exact heap_alloc_new w _)
 have HY1:=hid (show w1.heap[z+1]?=some (.cells #[.bool n2,.slice B m cb,.int .i64 (S2:Int)] 277 (0,0)) from by
  rw[←HW1.out,←Hz.out,Below.heap_alloc _ _ _ (by simp)]
  have:=heap_alloc_new (w.alloc (.cells #[.bool n1,.slice A n ca,.int .i64 (S1:Int)] 277)) (.cells #[.bool n2,.slice B m cb,.int .i64 (S2:Int)] 277)
  simpa using this)
 have HR1:=hid (show w1.heap[z+2]?=some (.cells #[.bool false,.slice none 0 0,.int .i64 0] 277 (0,0)) from by
  rw[←HW1.out,←Hz.out]
  have:=heap_alloc_new ((w.alloc (.cells #[.bool n1,.slice A n ca,.int .i64 (S1:Int)] 277)).alloc (.cells #[.bool n2,.slice B m cb,.int .i64 (S2:Int)] 277)) (.cells #[.bool false,.slice none 0 0,.int .i64 0] 277)
  simpa using this)
 have HBX:=hid (λ(W:World) (hW:Below w1.heap.size w1 W)=>And.intro ((hW.block z (blk_lt HX1.out)).trans HX1.out) (And.intro ((hW.block (z+1) (blk_lt HY1.out)).trans HY1.out) ((hW.block (z+2) (blk_lt HR1.out)).trans HR1.out)))
 have x0:w1.cell? ⟨z,0,none⟩=some (.bool n1):=cell_of_heap HX1.out 0
 have x1:w1.cell? ⟨z,1,none⟩=some (.slice A n ca):=cell_of_heap HX1.out 1
 have x2:w1.cell? ⟨z,2,none⟩=some (.int .i64 (S1:Int)):=cell_of_heap HX1.out 2
 have y2:w1.cell? ⟨z+1,2,none⟩=some (.int .i64 (S2:Int)):=cell_of_heap HY1.out 2
 clear h1 h2 hd he
 go_enter Tryz.func252,Tryz.ntmps252
 go_upto_region 1 with fail
 rw[HW1.out,Hz.out]
 go_upto_if 13 with fail
 go_cut [5] (λs5 wx=>s5 = .int .i64 (sc:Int)∧wx=w1)
 case first=>
  by_cases hlt:S1<S2
  ·have e1:(S1:Int)<(S2:Int):=by omega
   have hm:=hid (show (S2:Int)=(sc:Int) from by rw[←Hsc.out,Nat.max_eq_right (by omega)])
   clear hlt
   go_wp2_with fail
   go_meet
   exact⟨by rw[hm.out],rfl⟩
  ·have e1:¬(S1:Int)<(S2:Int):=by omega
   have hm:=hid (show (S1:Int)=(sc:Int) from by rw[←Hsc.out,Nat.max_eq_left (by omega)])
   clear hlt
   go_wp2_with fail
   go_meet
   exact⟨by rw[hm.out],rfl⟩
 case rest=>
  obtain⟨h5,rfl⟩:=hcut
  subst h5
  go_wp2_with fail
  refine (hsA.out wc HB1.out).mono ?_
  rintro e w3 ⟨s6,rfl,hb3,ho3,_⟩
  obtain⟨X,HX⟩:=name_itV (List.replicate k1 0++D)
  have hXl:X.length=k1+D.length:=by rw[←HX.out,List.length_append,List.length_replicate]
  rw[HX.out,←hXl]at ho3
  obtain⟨A6,c6,rfl,hi3⟩:=ints_of_own ho3
  have HXL:=hid (show X.length≤200000 from by rw[hXl,Hn.out];omega)
  have HXA:=hid (show amtD X=amtD D*bT ^ k1 from by rw[←HX.out];exact amt_pad D k1)
  have HX9:=hid (show ∀i,atD X i≤9 from by rw[←HX.out];exact nine_pad HD9.out k1)
  have HB3:=hid hb3
  have HI3:=hid hi3
  have hy:=HBX.out w3 hb3
  have y0:w3.cell? ⟨z+1,0,none⟩=some (.bool n2):=cell_of_heap hy.2.1 0
  have y1:w3.cell? ⟨z+1,1,none⟩=some (.slice B m cb):=cell_of_heap hy.2.1 1
  have y2':w3.cell? ⟨z+1,2,none⟩=some (.int .i64 (S2:Int)):=cell_of_heap hy.2.1 2
  clear hb3 ho3 hi3 hXl hy x0 x1 x2 y2
  go_wp2_with fail
  refine (hsB.out w3 (HB1.out.trans (HB3.out.mono HB1.out.size))).mono ?_
  rintro e w4 ⟨s7,rfl,hb4,ho4,_⟩
  obtain⟨Y,HY⟩:=name_itV (List.replicate k2 0++E)
  have hYl:Y.length=k2+E.length:=by rw[←HY.out,List.length_append,List.length_replicate]
  rw[HY.out,←hYl]at ho4
  obtain⟨A8,c8,rfl,hi4⟩:=ints_of_own ho4
  have HYL:=hid (show Y.length≤200000 from by rw[hYl,Hm.out];omega)
  have HYA:=hid (show amtD Y=amtD E*bT ^ k2 from by rw[←HY.out];exact amt_pad E k2)
  have HY9:=hid (show ∀i,atD Y i≤9 from by rw[←HY.out];exact nine_pad HE9.out k2)
  have HB4:=hid (HB3.out.trans (hb4.mono HB3.out.size))
  have HIX:=hid (HI3.out.under hb4)
  have HIY:=hid hi4
  have hy:=HBX.out w4 HB4.out
  have u0:w4.cell? ⟨z,0,none⟩=some (.bool n1):=cell_of_heap hy.1 0
  have v0:w4.cell? ⟨z+1,0,none⟩=some (.bool n2):=cell_of_heap hy.2.1 0
  clear hb4 ho4 hi4 hYl hy y0 y1 y2'
  by_cases hnn:n1=n2
  ·subst hnn
   have t1:(n1==n1)=true:=beq_self_eq_true _
   have hadd:=hid (radd_any X Y (by have:=HXL.out;omega) (by have:=HYL.out;omega) HX9.out HY9.out A6 A8 c6 c8 w4.drew HIX.out HIY.out)
   have s1:=hid (show w4.drew.cell? ⟨z,0,none⟩=some (.bool n1) from u0)
   go_upto_region 7 with fail
   go_region_held3 (λW'=>W'.cell? ⟨z,0,none⟩=some (.bool n1)) (first | exact s1.out | exact s2.out | exact s3.out | (trace_state;fail))
    (first
     | (go_at_call 291;(with_reducible refine hadd.out.mono ?_);rintro e w7 ⟨O,s7,rfl,hb7,ho7,h97,ha7,hl7,_⟩;obtain⟨A7,c7,rfl⟩:=slice_form ho7;obtain⟨lO,HlO⟩:=name_itV O.length;rw[HlO.out]at ho7 ⊢;have HB7:=hid (show Below wc.heap.size wc w7 from HB4.out.trans ((below_of_dr hb7).mono HB4.out.size));have HO7:=hid ho7;have H97:=hid h97;have HA7:=hid ha7;have HL7:=hid hl7;have HR7:=hid (HBX.out w7 HB7.out);have s2:=hid (show w7.cell? ⟨z,0,none⟩=some (.bool n1) from cell_of_heap HR7.out.1 0);have q0:w7.cell? ⟨z+1+1,0,none⟩=some (.bool false):=cell_of_heap HR7.out.2.2 0;have q1:w7.cell? ⟨z+1+1,1,none⟩=some (.slice none 0 0):=cell_of_heap HR7.out.2.2 1;have q2:w7.cell? ⟨z+1+1,2,none⟩=some (.int .i64 0):=cell_of_heap HR7.out.2.2 2;have f0:w7.frozen? ⟨z+1+1,0,none⟩=false:=Lib.frozen_of_heap HR7.out.2.2 0;have f1:w7.frozen? ⟨z+1+1,1,none⟩=false:=Lib.frozen_of_heap HR7.out.2.2 1;have f2:w7.frozen? ⟨z+1+1,2,none⟩=false:=Lib.frozen_of_heap HR7.out.2.2 2;have s3:=hid (show (((w7.setCell ⟨z+1+1,0,none⟩ (.bool n1)).setCell ⟨z+1+1,1,none⟩ (.slice A7 lO c7)).setCell ⟨z+1+1,2,none⟩ (.int .i64 (sc:Int))).cell? ⟨z,0,none⟩=some (.bool n1) from by rw[World.cell?_setCell_far _ _ _ _ (by show z+1+1≠z;omega),World.cell?_setCell_far _ _ _ _ (by show z+1+1≠z;omega),World.cell?_setCell_far _ _ _ _ (by show z+1+1≠z;omega)];exact s2.out);clear hb7 ho7 h97 ha7 hl7))
   have g1:=heap_setCell_same _ (z+1+1) 2 _ _ (.int .i64 (sc:Int)) (heap_setCell_same _ (z+1+1) 1 _ _ (.slice A7 lO c7) (heap_setCell_same _ (z+1+1) 0 _ _ (.bool n1) HR7.out.2.2))
   have ht:=((((Turn.refl (λb=>b=z+2) w7).setCell (p:=⟨z+1+1,0,none⟩) (.inr rfl) (.bool n1)).setCell (p:=⟨z+1+1,1,none⟩) (.inr rfl) (.slice A7 lO c7)).setCell (p:=⟨z+1+1,2,none⟩) (.inr rfl) (.int .i64 (sc:Int)))
   obtain⟨W9,HW9⟩:=name_itV (((w7.setCell ⟨z+1+1,0,none⟩ (.bool n1)).setCell ⟨z+1+1,1,none⟩ (.slice A7 lO c7)).setCell ⟨z+1+1,2,none⟩ (.int .i64 (sc:Int)))
   rw[HW9.out]at g1 ht ⊢
   have r0:W9.cell? ⟨z+1+1,0,none⟩=some (.bool n1):=cell_of_heap g1 0
   have r1:W9.cell? ⟨z+1+1,1,none⟩=some (.slice A7 lO c7):=cell_of_heap g1 1
   have r2:W9.cell? ⟨z+1+1,2,none⟩=some (.int .i64 (sc:Int)):=cell_of_heap g1 2
   go_wp2_with fail
   refine bodyPost_ret (v:=.agg #[.bool n1,.slice A7 lO c7,.int .i64 (sc:Int)]) (by simp[results,Tryz.results252,go_sem,r0,r1,r2]) rfl ⟨n1,O,.slice A7 lO c7,sc,rfl,?_,?_,H97.out,?_,?_⟩
   ·exact HB1.out.trans ((HB7.out.mono HB1.out.size).trans (ht.below (λb _ h=>by have:=Hz.out;omega) (Nat.le_trans HB1.out.size HB7.out.size)))
   ·rw[HlO.out]
    exact ht.owns HO7.out (λg hg e=>by
     obtain⟨cur,hcur⟩:=own_type HO7.out hg
     have e2:g=z+2:=e
     rw[e2,show w7.heap[z+2]?=_ from HR7.out.2.2]at hcur
     injection hcur with hcur
     injection hcur with _ h8
     revert h8
     decide)
   ·have:=HL7.out
    have:=HXL.out
    have:=HYL.out
    omega
   ·rw[HA7.out,HXA.out,HYA.out]
    cases n1<;>simp[sgV]<;>omega
  ·have t1:(n1==n2)=false:=beq_eq_false_iff_ne.2 hnn
   have HNN:=hid hnn
   have hcm:=hid (rcmp_any X Y (by have:=HXL.out;omega) (by have:=HYL.out;omega) HX9.out HY9.out A6 A8 c6 c8 w4 HIX.out HIY.out)
   obtain⟨r,Hr⟩:=name_itV (cmpN (amtD X) (amtD Y))
   clear hnn
   go_wp2_with fail
   refine hcm.out.mono ?_
   rintro e w5 ⟨rfl,q5,hw5⟩
   have HB45:=hid (show Below wc.heap.size wc w5 from by rw[hw5];exact below_dN HB4.out q5)
   have HIX5:=hid (show IntsAt w5 A6 X from by rw[hw5];exact HIX.out)
   have HIY5:=hid (show IntsAt w5 A8 Y from by rw[hw5];exact HIY.out)
   have hy:=HBX.out w5 HB45.out
   have u5:w5.cell? ⟨z,0,none⟩=some (.bool n1):=cell_of_heap hy.1 0
   have v5:w5.cell? ⟨z+1,0,none⟩=some (.bool n2):=cell_of_heap hy.2.1 0
   rw[Hr.out]
   clear hw5 hy u0 v0 HB4
   have HB4:=hid HB45.out
   by_cases hlt:amtD X<amtD Y
   ·have g0:r<0:=by rw[←Hr.out];unfold cmpN;rw[if_pos hlt];decide
    have HLT:=hid hlt
    have hsub:=hid (rsub_any Y X (by have:=HYL.out;omega) (by have:=HXL.out;omega) HY9.out HX9.out (Nat.le_of_lt hlt) A8 A6 c8 c6 w5.drew HIY5.out HIX5.out)
    clear hlt
    have s1:=hid (show w5.drew.cell? ⟨z+1,0,none⟩=some (.bool n2) from v5)
    go_upto_region 9 with fail
    go_region_held3 (λW'=>W'.cell? ⟨z+1,0,none⟩=some (.bool n2)) (first | exact s1.out | exact s2.out | exact s3.out | (trace_state;fail))
     (first
      | (go_at_call 293;(with_reducible refine hsub.out.mono ?_);rintro e w7 ⟨O,s7,rfl,hb7,ho7,h97,ha7,hl7,_⟩;obtain⟨A7,c7,rfl⟩:=slice_form ho7;obtain⟨lO,HlO⟩:=name_itV O.length;rw[HlO.out]at ho7 ⊢;have HB7:=hid (show Below wc.heap.size wc w7 from HB4.out.trans ((below_of_dr hb7).mono HB4.out.size));have HO7:=hid ho7;have H97:=hid h97;have HA7:=hid ha7;have HL7:=hid hl7;have HR7:=hid (HBX.out w7 HB7.out);have s2:=hid (show w7.cell? ⟨z+1,0,none⟩=some (.bool n2) from cell_of_heap HR7.out.2.1 0);have q0:w7.cell? ⟨z+1+1,0,none⟩=some (.bool false):=cell_of_heap HR7.out.2.2 0;have q1:w7.cell? ⟨z+1+1,1,none⟩=some (.slice none 0 0):=cell_of_heap HR7.out.2.2 1;have q2:w7.cell? ⟨z+1+1,2,none⟩=some (.int .i64 0):=cell_of_heap HR7.out.2.2 2;have f0:w7.frozen? ⟨z+1+1,0,none⟩=false:=Lib.frozen_of_heap HR7.out.2.2 0;have f1:w7.frozen? ⟨z+1+1,1,none⟩=false:=Lib.frozen_of_heap HR7.out.2.2 1;have f2:w7.frozen? ⟨z+1+1,2,none⟩=false:=Lib.frozen_of_heap HR7.out.2.2 2;have s3:=hid (show (((w7.setCell ⟨z+1+1,0,none⟩ (.bool n2)).setCell ⟨z+1+1,1,none⟩ (.slice A7 lO c7)).setCell ⟨z+1+1,2,none⟩ (.int .i64 (sc:Int))).cell? ⟨z+1,0,none⟩=some (.bool n2) from by rw[World.cell?_setCell_far _ _ _ _ (by show z+1+1≠z+1;omega),World.cell?_setCell_far _ _ _ _ (by show z+1+1≠z+1;omega),World.cell?_setCell_far _ _ _ _ (by show z+1+1≠z+1;omega)];exact s2.out);clear hb7 ho7 h97 ha7 hl7))
    have g1:=heap_setCell_same _ (z+1+1) 2 _ _ (.int .i64 (sc:Int)) (heap_setCell_same _ (z+1+1) 1 _ _ (.slice A7 lO c7) (heap_setCell_same _ (z+1+1) 0 _ _ (.bool n2) HR7.out.2.2))
    have ht:=((((Turn.refl (λb=>b=z+2) w7).setCell (p:=⟨z+1+1,0,none⟩) (.inr rfl) (.bool n2)).setCell (p:=⟨z+1+1,1,none⟩) (.inr rfl) (.slice A7 lO c7)).setCell (p:=⟨z+1+1,2,none⟩) (.inr rfl) (.int .i64 (sc:Int)))
    obtain⟨W9,HW9⟩:=name_itV (((w7.setCell ⟨z+1+1,0,none⟩ (.bool n2)).setCell ⟨z+1+1,1,none⟩ (.slice A7 lO c7)).setCell ⟨z+1+1,2,none⟩ (.int .i64 (sc:Int)))
    rw[HW9.out]at g1 ht ⊢
    have r0:W9.cell? ⟨z+1+1,0,none⟩=some (.bool n2):=cell_of_heap g1 0
    have r1:W9.cell? ⟨z+1+1,1,none⟩=some (.slice A7 lO c7):=cell_of_heap g1 1
    have r2:W9.cell? ⟨z+1+1,2,none⟩=some (.int .i64 (sc:Int)):=cell_of_heap g1 2
    go_wp2_with fail
    refine bodyPost_ret (v:=.agg #[.bool n2,.slice A7 lO c7,.int .i64 (sc:Int)]) (by simp[results,Tryz.results252,go_sem,r0,r1,r2]) rfl ⟨n2,O,.slice A7 lO c7,sc,rfl,?_,?_,H97.out,?_,?_⟩
    ·exact HB1.out.trans ((HB7.out.mono HB1.out.size).trans (ht.below (λb _ h=>by have:=Hz.out;omega) (Nat.le_trans HB1.out.size HB7.out.size)))
    ·rw[HlO.out]
     exact ht.owns HO7.out (λg hg e=>by
      obtain⟨cur,hcur⟩:=own_type HO7.out hg
      have e2:g=z+2:=e
      rw[e2,show w7.heap[z+2]?=_ from HR7.out.2.2]at hcur
      injection hcur with hcur
      injection hcur with _ h8
      revert h8
      decide)
    ·have:=HL7.out
     have:=HXL.out
     have:=HYL.out
     omega
    ·rw[HA7.out,HXA.out,HYA.out]
     have h8:=HLT.out;rw[HXA.out,HYA.out]at h8;generalize amtD D*bT ^ k1=P1 at h8 ⊢;generalize amtD E*bT ^ k2=P2 at h8 ⊢;have h9:=HNN.out;revert h9;cases n1<;>cases n2<;>intro h9<;>first | exact absurd rfl h9 | (simp[sgV];omega)
   ·have g0:¬r<0:=by rw[←Hr.out];unfold cmpN;rw[if_neg hlt];split<;>decide
    have HLT:=hid hlt
    have hsub:=hid (rsub_any X Y (by have:=HXL.out;omega) (by have:=HYL.out;omega) HX9.out HY9.out (Nat.le_of_not_lt hlt) A6 A8 c6 c8 w5.drew HIX5.out HIY5.out)
    clear hlt
    have s1:=hid (show w5.drew.cell? ⟨z,0,none⟩=some (.bool n1) from u5)
    go_upto_region 10 with fail
    go_region_held3 (λW'=>W'.cell? ⟨z,0,none⟩=some (.bool n1)) (first | exact s1.out | exact s2.out | exact s3.out | (trace_state;fail))
     (first
      | (go_at_call 293;(with_reducible refine hsub.out.mono ?_);rintro e w7 ⟨O,s7,rfl,hb7,ho7,h97,ha7,hl7,_⟩;obtain⟨A7,c7,rfl⟩:=slice_form ho7;obtain⟨lO,HlO⟩:=name_itV O.length;rw[HlO.out]at ho7 ⊢;have HB7:=hid (show Below wc.heap.size wc w7 from HB4.out.trans ((below_of_dr hb7).mono HB4.out.size));have HO7:=hid ho7;have H97:=hid h97;have HA7:=hid ha7;have HL7:=hid hl7;have HR7:=hid (HBX.out w7 HB7.out);have s2:=hid (show w7.cell? ⟨z,0,none⟩=some (.bool n1) from cell_of_heap HR7.out.1 0);have q0:w7.cell? ⟨z+1+1,0,none⟩=some (.bool false):=cell_of_heap HR7.out.2.2 0;have q1:w7.cell? ⟨z+1+1,1,none⟩=some (.slice none 0 0):=cell_of_heap HR7.out.2.2 1;have q2:w7.cell? ⟨z+1+1,2,none⟩=some (.int .i64 0):=cell_of_heap HR7.out.2.2 2;have f0:w7.frozen? ⟨z+1+1,0,none⟩=false:=Lib.frozen_of_heap HR7.out.2.2 0;have f1:w7.frozen? ⟨z+1+1,1,none⟩=false:=Lib.frozen_of_heap HR7.out.2.2 1;have f2:w7.frozen? ⟨z+1+1,2,none⟩=false:=Lib.frozen_of_heap HR7.out.2.2 2;have s3:=hid (show (((w7.setCell ⟨z+1+1,0,none⟩ (.bool n1)).setCell ⟨z+1+1,1,none⟩ (.slice A7 lO c7)).setCell ⟨z+1+1,2,none⟩ (.int .i64 (sc:Int))).cell? ⟨z,0,none⟩=some (.bool n1) from by rw[World.cell?_setCell_far _ _ _ _ (by show z+1+1≠z;omega),World.cell?_setCell_far _ _ _ _ (by show z+1+1≠z;omega),World.cell?_setCell_far _ _ _ _ (by show z+1+1≠z;omega)];exact s2.out);clear hb7 ho7 h97 ha7 hl7))
    have g1:=heap_setCell_same _ (z+1+1) 2 _ _ (.int .i64 (sc:Int)) (heap_setCell_same _ (z+1+1) 1 _ _ (.slice A7 lO c7) (heap_setCell_same _ (z+1+1) 0 _ _ (.bool n1) HR7.out.2.2))
    have ht:=((((Turn.refl (λb=>b=z+2) w7).setCell (p:=⟨z+1+1,0,none⟩) (.inr rfl) (.bool n1)).setCell (p:=⟨z+1+1,1,none⟩) (.inr rfl) (.slice A7 lO c7)).setCell (p:=⟨z+1+1,2,none⟩) (.inr rfl) (.int .i64 (sc:Int)))
    obtain⟨W9,HW9⟩:=name_itV (((w7.setCell ⟨z+1+1,0,none⟩ (.bool n1)).setCell ⟨z+1+1,1,none⟩ (.slice A7 lO c7)).setCell ⟨z+1+1,2,none⟩ (.int .i64 (sc:Int)))
    rw[HW9.out]at g1 ht ⊢
    have r0:W9.cell? ⟨z+1+1,0,none⟩=some (.bool n1):=cell_of_heap g1 0
    have r1:W9.cell? ⟨z+1+1,1,none⟩=some (.slice A7 lO c7):=cell_of_heap g1 1
    have r2:W9.cell? ⟨z+1+1,2,none⟩=some (.int .i64 (sc:Int)):=cell_of_heap g1 2
    go_wp2_with fail
    refine bodyPost_ret (v:=.agg #[.bool n1,.slice A7 lO c7,.int .i64 (sc:Int)]) (by simp[results,Tryz.results252,go_sem,r0,r1,r2]) rfl ⟨n1,O,.slice A7 lO c7,sc,rfl,?_,?_,H97.out,?_,?_⟩
    ·exact HB1.out.trans ((HB7.out.mono HB1.out.size).trans (ht.below (λb _ h=>by have:=Hz.out;omega) (Nat.le_trans HB1.out.size HB7.out.size)))
    ·rw[HlO.out]
     exact ht.owns HO7.out (λg hg e=>by
      obtain⟨cur,hcur⟩:=own_type HO7.out hg
      have e2:g=z+2:=e
      rw[e2,show w7.heap[z+2]?=_ from HR7.out.2.2]at hcur
      injection hcur with hcur
      injection hcur with _ h8
      revert h8
      decide)
    ·have:=HL7.out
     have:=HXL.out
     have:=HYL.out
     omega
    ·rw[HA7.out,HXA.out,HYA.out]
     have h8:=HLT.out;rw[HXA.out,HYA.out]at h8;generalize amtD D*bT ^ k1=P1 at h8 ⊢;generalize amtD E*bT ^ k2=P2 at h8 ⊢;have h9:=HNN.out;revert h9;cases n1<;>cases n2<;>intro h9<;>first | exact absurd rfl h9 | (simp[sgV];omega)
end Go.Proofs.YtefhfadjajcmkaaGreatDoor
namespace Go.Proofs.YtefhfadjajcmkaaGreatDoor
open Go.Lib (hid cell_of_heap)
theorem amt_cons (x:Nat) (D:List Nat):amtD (x::D)=x+10*amtD D:=by
 unfold amtD
 have h:∀n,pt (atD (x::D)) (n+1)=x+10*pt (atD D) n:=by
  intro n
  induction n with
  | zero=>simp[pt,atD]
  | succ n ih=>
   rw[pt,ih,pt,Nat.pow_succ]
   have h1:atD (x::D) (n+1)=atD D n:=by unfold atD;rw[List.getElem?_cons_succ]
   rw[h1,Nat.mul_add,←Nat.mul_assoc,show bT=10 from rfl]
   have h2:atD D n*10 ^ n*10=10*(atD D n*10 ^ n):=Nat.mul_comm _ _
   omega
 exact h D.length
theorem amt_rev (m:List UInt8):amtD (m.map valU)=digV m.reverse:=by
 induction m with
 | nil=>rfl
 | cons c r ih=>
  rw[List.map_cons,amt_cons,ih,List.reverse_cons,dig_snoc]
  unfold valU
  omega
theorem amt_revD (l:List UInt8):amtD (revD l)=digV l:=by
 have h:=amt_rev l.reverse
 rw[List.reverse_reverse]at h
 unfold revD
 rw[←h,List.map_reverse]
theorem head_dig {a:List UInt8} (h:1≤a.length) (hd:a.all digB=true) (r:List UInt8):∃c t,a++r=c::t∧c≠45∧c≠43:=by
 cases a with
 | nil=>exact absurd h (by simp)
 | cons c t=>
  rw[List.all_cons,Bool.and_eq_true,digB_iff]at hd
  refine⟨c,t++r,rfl,λe=>?_,λe=>?_⟩
  ·rw[e]at hd
   have:=hd.1.1
   revert this
   decide
  ·rw[e]at hd
   have:=hd.1.1
   revert this
   decide
theorem sgn_of {s:ByteArray} {neg:Bool} {a b:List UInt8} (h:DecS s neg a b):sgnB s=neg∧(sgnT s).data.toList=a++46::b:=by
 obtain⟨c,t,hc,h45,h43⟩:=head_dig h.la.1 h.da (46::b)
 have he:=h.eq
 cases neg with
 | true=>
  simp only[cond_true,List.singleton_append]at he
  have h1:sgnB s=true:=by unfold sgnB;rw[he];rfl
  have h2:sgnY s=true:=by unfold sgnY;rw[he];rfl
  refine⟨h1,?_⟩
  unfold sgnT
  rw[h2,cond_true,ByteArray.data_extract,Array.toList_extract,he]
  have hl:s.size=(a++46::b).length+1:=by
   show s.data.toList.length=_
   rw[he,List.length_cons]
  rw[hl]
  simp only[List.extract_eq_take_drop,List.drop_succ_cons,List.drop_zero,Nat.add_sub_cancel]
  exact List.take_of_length_le (Nat.le_refl _)
 | false=>
  simp only[cond_false,List.nil_append]at he
  have h1:sgnB s=false:=by
   unfold sgnB
   rw[he,hc]
   exact beq_eq_false_iff_ne.2 (λe=>h45 (by simpa using e))
  have h2:sgnY s=false:=by
   unfold sgnY
   rw[he,hc]
   have e1:((c::t).head?==some 45)=false:=beq_eq_false_iff_ne.2 (λe=>h45 (by simpa using e))
   have e2:((c::t).head?==some 43)=false:=beq_eq_false_iff_ne.2 (λe=>h43 (by simpa using e))
   rw[e1,e2]
   rfl
  refine⟨h1,?_⟩
  unfold sgnT
  rw[h2]
  exact he
theorem dec_parse {s:ByteArray} {neg:Bool} {a b:List UInt8} (h:DecS s neg a b):parseT s=some (neg,revD (a++b),b.length):=by
 obtain⟨h1,h2⟩:=sgn_of h
 have hp:=pointF_yes a b (no46 h.da) 0
 rw[h.da,h.db]at hp
 simp only[Bool.and_self,cond_true,Nat.zero_add]at hp
 have hsz:(sgnT s).size=a.length+(b.length+1):=by
  show (sgnT s).data.toList.length=_
  rw[h2,List.length_append,List.length_cons]
 unfold parseT
 rw[h2,hp]
 simp only
 have e0:decide ((sgnT s).size=0)=false:=decide_eq_false (by rw[hsz];omega)
 have q1:a.length≠0:=by have:=h.la.1;omega
 have q2:a.length≠(sgnT s).size-1:=by have:=h.lb.1;omega
 have e1:((some a.length:Option Nat)==some 0)=false:=beq_eq_false_iff_ne.2 (λe=>q1 (by simpa using e))
 have e2:((some a.length:Option Nat)==some ((sgnT s).size-1))=false:=beq_eq_false_iff_ne.2 (λe=>q2 (by simpa using e))
 rw[e0,e1,e2,h1,digs_yes h.da h.db]
 have e3:scaleP (sgnT s).size (some a.length)=b.length:=by
  show (sgnT s).size-1-a.length=b.length
  rw[hsz]
  omega
 rw[e3]
 rfl
end Go.Proofs.YtefhfadjajcmkaaGreatDoor
namespace Go.Proofs.YtefhfadjajcmkaaGreatDoor
open Go.Lib (hid cell_of_heap)
theorem sgV_mul (b:Bool) (n k:Nat):sgV b (n*k)=sgV b n*(k:Int):=by
 cases b
 ·show ((n*k:Nat):Int)=(n:Int)*(k:Int)
  exact Int.natCast_mul n k
 ·show -((n*k:Nat):Int) = -(n:Int)*(k:Int)
  rw[Int.natCast_mul,Int.neg_mul]
theorem sgV_not (b:Bool) (n:Nat):sgV (!b) n = -sgV b n:=by
 cases b
 ·rfl
 ·show (n:Int) = -(-(n:Int))
  omega
theorem sgV_zero {b:Bool} {n:Nat}:sgV b n=0↔n=0:=by
 cases b
 ·show (n:Int)=0↔n=0
  omega
 ·show -(n:Int)=0↔n=0
  omega
theorem decN_sg {s:ByteArray} {neg:Bool} {a b:List UInt8} (h:DecS s neg a b) {mx:Nat} (h1:b.length≤mx) (h2:mx≤20):decN s=sgV neg (amtD (revD (a++b))*bT ^ (mx-b.length))*((10 ^ (20-mx):Nat):Int):=by
 rw[←sgV_mul,decN_of h,amt_revD,Nat.mul_assoc,show bT=10 from rfl,←Nat.pow_add,show mx-b.length+(20-mx)=20-b.length by omega]
 rfl
theorem cmpD_sg {s t:ByteArray} {n1 n2:Bool} {a b c d:List UInt8} (hs:DecS s n1 a b) (ht:DecS t n2 c d) {ng:Bool} {o:Nat}
    (h:sgV ng o=sgV n1 (amtD (revD (a++b))*bT ^ (max b.length d.length-b.length))+sgV (!n2) (amtD (revD (c++d))*bT ^ (max b.length d.length-d.length))) :
    cmpD s t=if o=0 then 0 else if ng=true then -1 else 1:=by
 have hmx:max b.length d.length≤20:=Nat.max_le.2 ⟨hs.lb.2,ht.lb.2⟩
 have e1:=decN_sg hs (Nat.le_max_left b.length d.length) hmx
 have e2:=decN_sg ht (Nat.le_max_right b.length d.length) hmx
 rw[sgV_not]at h
 generalize sgV n1 (amtD (revD (a++b))*bT ^ (max b.length d.length-b.length))=P at h e1
 generalize sgV n2 (amtD (revD (c++d))*bT ^ (max b.length d.length-d.length))=Q at h e2
 have hk:(0:Int)<((10 ^ (20-max b.length d.length):Nat):Int):=by
  have:0<10 ^ (20-max b.length d.length):=Nat.pow_pos (by decide)
  omega
 generalize ((10 ^ (20-max b.length d.length):Nat):Int)=K at e1 e2 hk
 have hlt:decN s<decN t↔P<Q:=by rw[e1,e2];exact Int.mul_lt_mul_right hk
 have hgt:decN t<decN s↔Q<P:=by rw[e1,e2];exact Int.mul_lt_mul_right hk
 unfold cmpD
 by_cases h0:o=0
 ·rw[if_pos h0]
  have hz:=(sgV_zero (b:=ng) (n:=o)).2 h0
  rw[if_neg (λh3=>by have:=hlt.1 h3;omega),if_neg (λh3=>by have:=hgt.1 h3;omega)]
 ·rw[if_neg h0]
  cases ng with
  | true=>
   have h3:sgV true o = -(o:Int):=rfl
   rw[if_pos rfl,if_pos (hlt.2 (by omega))]
  | false=>
   have h3:sgV false o=(o:Int):=rfl
   rw[if_neg (show ¬decN s<decN t from λh4=>by have:=hlt.1 h4;omega),if_pos (hgt.2 (by omega))]
   rfl
end Go.Proofs.YtefhfadjajcmkaaGreatDoor
namespace Go.Proofs.YtefhfadjajcmkaaGreatDoor
open Go.Lib (hid cell_of_heap)
theorem zero_amt (O:List Nat):zeroD O=decide (amtD O=0):=by
 induction O with
 | nil=>rfl
 | cons x r ih=>
  have h1:zeroD (x::r)=(x==0&&zeroD r):=rfl
  rw[h1,ih,amt_cons]
  by_cases hx:x=0
  ·subst hx
   by_cases hr:amtD r=0
   ·rw[decide_eq_true hr,decide_eq_true (by omega)]
    rfl
   ·rw[decide_eq_false hr,decide_eq_false (by omega)]
    rfl
  ·have h2:(x==0)=false:=beq_eq_false_iff_ne.2 hx
   have h3:¬(x+10*amtD r=0):=by omega
   rw[h2,decide_eq_false h3]
   rfl
end Go.Proofs.YtefhfadjajcmkaaGreatDoor
namespace Go.Proofs.YtefhfadjajcmkaaGreatDoor
open Go
open Go.Lib (hid cell_of_heap)
theorem dec_value (u:Nat):digV (Lib.decDigits u)=u:=by
 induction u using Nat.strongRecOn with
 | _ u ih=>
  by_cases h:u<10
  ·rw[Lib.decDigits,dif_pos h]
   show 0*10+((UInt8.ofNat (48+u)).toNat-48)=u
   rw[UInt8.toNat_ofNat',Nat.mod_eq_of_lt (by omega)]
   omega
  ·rw[Lib.decDigits,dif_neg h,dig_snoc,ih (u / 10) (by omega),UInt8.toNat_ofNat',Nat.mod_eq_of_lt (by omega)]
   omega
theorem dec_digits (u:Nat):(Lib.decDigits u).all digB=true:=by
 induction u using Nat.strongRecOn with
 | _ u ih=>
  by_cases h:u<10
  ·rw[Lib.decDigits,dif_pos h,List.all_cons,List.all_nil,Bool.and_true,digB_iff,UInt8.toNat_ofNat',Nat.mod_eq_of_lt (by omega)]
   omega
  ·rw[Lib.decDigits,dif_neg h,List.all_append,ih (u / 10) (by omega),Bool.true_and,List.all_cons,List.all_nil,Bool.and_true,digB_iff,UInt8.toNat_ofNat',Nat.mod_eq_of_lt (by omega)]
   omega
theorem dec_head {u:Nat} (h0:0<u):∃c r,Lib.decDigits u=c::r∧c≠48:=by
 induction u using Nat.strongRecOn with
 | _ u ih=>
  by_cases h:u<10
  ·rw[Lib.decDigits,dif_pos h]
   refine⟨_,_,rfl,λe=>?_⟩
   have:=congrArg UInt8.toNat e
   rw[UInt8.toNat_ofNat',Nat.mod_eq_of_lt (by omega)]at this
   have h48:(48:UInt8).toNat=48:=rfl
   omega
  ·obtain⟨c,r,e,hc⟩:=ih (u / 10) (by omega) (by omega)
   rw[Lib.decDigits,dif_neg h,e]
   exact⟨c,_,rfl,hc⟩
theorem dec_len {u:Nat} (h:u≤9223372036854775808):1≤(Lib.decDigits u).length∧(Lib.decDigits u).length≤20:=by
 rw[Lib.decDigits_length]
 refine⟨Lib.nDigits_pos u,?_⟩
 rcases Nat.lt_or_ge 20 (Lib.nDigits u) with h1 | h1
 ·obtain⟨k,hk⟩:∃k,Lib.nDigits u=k+1:=⟨Lib.nDigits u-1,by omega⟩
  exfalso
  have key:∀k u,Lib.nDigits u=k+1→0<k→10 ^ k≤u:=by
   intro k
   induction k with
   | zero=>intro u _ h;omega
   | succ k ih=>
    intro u hu _
    have hb:¬u<10:=λh=>by rw[Lib.nDigits_small h]at hu;omega
    rw[Lib.nDigits_big hb]at hu
    rw[Nat.pow_succ]
    rcases Nat.eq_zero_or_pos k with h0 | h0
    ·subst h0;omega
    ·have:=ih (u / 10) (by omega) h0
     omega
  have h2:=key k u hk (by omega)
  have h3:10 ^ 20≤10 ^ k:=Nat.pow_le_pow_right (by decide) (by omega)
  have h4:(100000000000000000000:Nat)=10 ^ 20:=by decide
  omega
 ·exact h1
def ofIntT (n:Int):ByteArray:=⟨(Lib.itoa n++[46,48]).toArray⟩
theorem itoa_abs (n:Int):Lib.itoa n=cond (decide (n<0)) [45] []++Lib.decDigits n.natAbs:=by
 unfold Lib.itoa
 by_cases h:n<0
 ·rw[if_pos h,decide_eq_true h];rfl
 ·rw[if_neg h,decide_eq_false h]
  have:n.toNat=n.natAbs:=by omega
  rw[this];rfl
theorem ofInt_shape {n:Int} (h0:-9223372036854775808≤n) (h1:n≤9223372036854775807):DecS (ofIntT n) (decide (n<0)) (Lib.decDigits n.natAbs) [48] where
 eq:=by
  unfold ofIntT
  rw[itoa_abs]
  simp
 la:=by
  have:=dec_len (u:=n.natAbs) (by omega)
  omega
 lb:=⟨Nat.le_refl _,by decide⟩
 da:=dec_digits _
 db:=by decide
theorem ten_twenty (u:Nat):(u*10 ^ 1+0)*10 ^ 19=u*100000000000000000000:=by
 have e:(10:Nat) ^ 1*10 ^ 19=100000000000000000000:=by decide
 rw[Nat.add_zero,Nat.mul_assoc,e]
theorem decN_ofInt {n:Int} (h0:-9223372036854775808≤n) (h1:n≤9223372036854775807):decN (ofIntT n)=n*100000000000000000000:=by
 have hz:digV [48]=0:=rfl
 have hl:([48]:List UInt8).length=1:=rfl
 rw[decN_of (ofInt_shape h0 h1),dig_append,dec_value,hz,hl]
 have e19:20-1=19:=rfl
 rw[e19,ten_twenty]
 by_cases h:n<0
 ·rw[decide_eq_true h,cond_true]
  have:(n.natAbs:Int) = -n:=by omega
  omega
 ·rw[decide_eq_false h,cond_false]
  have:(n.natAbs:Int)=n:=by omega
  omega
theorem high_of {D:List Nat} {n:Nat} (hl:D.length=n+1) (h:n=1∨atD D n≠0):highF D 1 D.length=n+1:=by
 rw[hl]
 show (if 1+1<n+1∧atD D n=0 then highF D 1 n else n+1)=n+1
 rcases h with h | h
 ·subst h;rfl
 ·rw[if_neg (λh2=>h h2.2)]
theorem decB_ofInt {n:Int} (h0:-9223372036854775808≤n) (h1:n≤9223372036854775807):decB (ofIntT n)=true:=by
 have hs:=ofInt_shape h0 h1
 have hp:=dec_parse hs
 obtain⟨a,ha⟩:∃a,Lib.decDigits n.natAbs=a:=⟨_,rfl⟩
 rw[ha]at hs hp
 have hla:=hs.la
 have hda:=hs.da
 have hval:digV a=n.natAbs:=by rw[←ha];exact dec_value _
 have hhd:a.length=1∨a[0]'(by omega)≠48:=by
  rcases Nat.eq_zero_or_pos n.natAbs with h | h
  ·left
   rw[h]at ha
   rw[←ha,Lib.decDigits_length,Lib.nDigits_small (by decide)]
  ·right
   obtain⟨c,r,e,hc⟩:=dec_head h
   rw[ha]at e
   subst e
   exact hc
 have hDl:(revD (a++[48])).length=a.length+1:=by rw[revD_length];simp
 have hat:∀j,j<a.length→atD (revD (a++[48])) (a.length-j)=valU (a[j]!):=λj hj=>by
  rw[atD_rev _ (by simp;omega)]
  congr 1
  simp only[List.length_append,List.length_singleton]
  rw[getElem!_pos a j hj,List.getElem_append_left (by omega)]
  congr 1
  omega
 have hat0:atD (revD (a++[48])) 0=0:=by
  rw[atD_rev _ (by simp)]
  simp[valU]
 have hhigh:highD (revD (a++[48])) 1=a.length+1:=by
  unfold highD
  rw[high_of hDl (by
   rcases hhd with h | h
   ·exact .inl h
   ·right
    have h2:=hat 0 (by omega)
    rw[Nat.sub_zero]at h2
    rw[h2]
    intro h3
    apply h
    have hb:digB (a[0]'(by omega))=true:=List.all_eq_true.1 hda _ (List.getElem_mem _)
    rw[digB_iff]at hb
    rw[getElem!_pos a 0 (by omega)]at h3
    unfold valU at h3
    apply UInt8.toNat_inj.1
    have h48:(48:UInt8).toNat=48:=rfl
    omega)]
  exact Nat.max_eq_left (by omega)
 have hlow:lowD (revD (a++[48])) 1=1:=by
  show (if 0<1∧atD (revD (a++[48])) 0=0 then lowF (revD (a++[48])) 1 0 1 else 0)=1
  rw[if_pos ⟨by decide,hat0⟩]
  rfl
 have hdown:downD (revD (a++[48])) (a.length+1) 1=a:=by
  apply List.ext_getElem
  ·rw[downD_length];omega
  ·intro j h2 h3
   simp only[downD,List.getElem_map,List.getElem_range]
   rw[show a.length+1-1-j=a.length-j by omega,hat j h3,getElem!_pos a j h3]
   exact digU_val (List.all_eq_true.1 hda _ (List.getElem_mem _))
 have hzero:(decide (n<0) && !zeroD (revD (a++[48])))=decide (n<0):=by
  by_cases h:n<0
  ·have hne:¬digV (a++[48])=0:=by
     have hz:digV [48]=0:=rfl
     rw[dig_append,hval,hz]
     show ¬n.natAbs*10 ^ 1+0=0
     omega
   rw[zero_amt,amt_revD,decide_eq_true h,decide_eq_false hne]
   rfl
  ·rw[decide_eq_false h];rfl
 have hread:readT (ofIntT n)=(ofIntT n,0):=by
  unfold readT
  rw[hp]
  have hl1:([48]:List UInt8).length=1:=rfl
  simp only[hl1]
  have hout:formOut (revD (a++[48])) 1=false:=by
   unfold formOut
   rw[hhigh,hlow,decide_eq_false (by omega),decide_eq_false (by omega)]
   rfl
  rw[hout]
  simp only[cond_false]
  have hform:formT (decide (n<0)) (revD (a++[48])) 1=ofIntT n:=by
   unfold formT ofIntT
   rw[hzero,hhigh,hlow,hdown,downD_nil,itoa_abs,ha]
   simp
  rw[hform]
 unfold decB
 rw[hread]
 simp
theorem cmpD_ints {a b:Int} (ha0:-9223372036854775808≤a) (ha1:a≤9223372036854775807) (hb0:-9223372036854775808≤b) (hb1:b≤9223372036854775807) :
    cmpD (ofIntT a) (ofIntT b)=if a<b then -1 else if b<a then 1 else 0:=by
 unfold cmpD
 rw[decN_ofInt ha0 ha1,decN_ofInt hb0 hb1]
 by_cases h:a<b
 ·rw[if_pos (by omega),if_pos h]
 ·rw[if_neg (by omega),if_neg h]
  by_cases h2:b<a
  ·rw[if_pos (by omega),if_pos h2]
  ·rw[if_neg (by omega),if_neg h2]
end Go.Proofs.YtefhfadjajcmkaaGreatDoor
namespace Go.Proofs.YtefhfadjajcmkaaGreatDoor
open Go Go.RowKit Go.Shelf Go.Lib
open Go.Lib (hid cell_of_heap)
def bK (l:List UInt8):ByteArray:=⟨l.toArray⟩
theorem bK_size (l:List UInt8):(bK l).size=l.length:=by simp[bK,ByteArray.size]
theorem bK_data (l:List UInt8):(bK l).data.toList=l:=rfl
theorem bK_toList (l:List UInt8):(bK l).toList=l:=Lib.toList_data (bK l)
theorem bK_app (a b:List UInt8):bK a++bK b=bK (a++b):=by
 apply ByteArray.ext
 simp[bK,ByteArray.data_append]
theorem bK_take (a:List UInt8) {k:Nat}:(bK a).extract 0 k=bK (a.take k):=by
 apply ByteArray.ext
 simp[bK]
theorem bK_drop (a:List UInt8) {k n:Nat} (h:a.length=n):(bK a).extract k n=bK (a.drop k):=by
 apply ByteArray.ext
 subst h
 simp[bK]
 exact List.take_of_length_le (by simp)
theorem repeat_zero (n:Nat):Lib.repeatL [48] n=List.replicate n 48:=by
 induction n with
 | zero=>rfl
 | succ n ih=>simp[Lib.repeatL,ih,List.replicate_succ]
theorem padT_length (d:List UInt8) (sc:Nat):(padT d sc).length=max d.length (sc+1):=by
 unfold padT
 split
 ·simp;omega
 ·omega
theorem wholeT_le (d:List UInt8) (sc:Nat):(wholeT d sc).length≤d.length+1:=by
 unfold wholeT Lib.trimLeftS
 have h:=(List.dropWhile_sublist ([48].contains ·) (l:=(padT d sc).take ((padT d sc).length-sc))).length_le
 have:=padT_length d sc
 rw[List.length_take]at h
 omega
theorem partT_le (d:List UInt8) (sc:Nat):(partT d sc).length≤sc:=by
 unfold partT Lib.trimRightS
 rw[List.length_reverse]
 have h:=(List.dropWhile_sublist ([48].contains ·) (l:=((padT d sc).drop ((padT d sc).length-sc)).reverse)).length_le
 have:=padT_length d sc
 rw[List.length_reverse,List.length_drop]at h
 omega
def ToldIs (neg:Bool) (d:List UInt8) (sc:Nat) (w:World) (e:Ending) (w':World):Prop:=Below w.heap.size w w'∧e = .returned (.tuple #[.string (bK (toldT neg d sc).1),.int .i64 (toldT neg d sc).2])
theorem told_any (neg:Bool) (d:List UInt8) (sc:Nat) (hd:d.length≤1000000) (hsc:sc≤1000000) (w:World) :
    Calls Tryz.prog 297 #[.bool neg,.string (bK d),.int .i64 (sc:Int)] w (ToldIs neg d sc w):=by
 obtain⟨n,Hn⟩:=name_itV d.length
 have hn:(bK d).size=n:=by rw[bK_size];exact Hn.out
 have hnb:n≤1000000:=by rw[←Hn.out];exact hd
 obtain⟨D,HD⟩:=name_itV (bK d)
 obtain⟨P,HP⟩:=name_itV (padT d sc)
 obtain⟨Wl,HW⟩:=name_itV (wholeT d sc)
 obtain⟨Pl,HPl⟩:=name_itV (partT d sc)
 have hPl:=padT_length d sc
 have hWle:=wholeT_le d sc
 have hple:=partT_le d sc
 rw[HP.out,Hn.out]at hPl
 rw[HW.out,Hn.out]at hWle
 rw[HPl.out]at hple
 obtain⟨K,HK⟩:=name_itV (P.length-sc)
 have hKb:K≤1000001:=by rw[←HK.out];omega
 have hw:=hid (show Lib.trimLeftS (P.take K) [48]=Wl from by rw[←HW.out,←HK.out,←HP.out];rfl)
 have hp:=hid (show Lib.trimRightS (P.drop K) [48]=Pl from by rw[←HPl.out,←HK.out,←HP.out];rfl)
 have htold:=hid (show toldT neg d sc=(if 40<Wl.length∨20<Pl.length then ([],2)
  else if Wl=[]∧Pl=[] then ([48,46,48],0)
  else ((if neg=true then [45] else [])++(if Wl=[] then [48] else Wl)++[46]++(if Pl=[] then [48] else Pl),0)) from by unfold toldT;rw[HW.out,HPl.out])
 rw[HD.out]
 have hDs:D.size=n:=by rw[←HD.out];exact hn
 have HDs:=hid hDs
 clear hn hDs hd
 go_enter Tryz.func297,Tryz.ntmps297
 go_upto_if 13 with fail
 go_cut [1] (λs1 wx=>s1 = .string (bK P)∧Below w.heap.size w wx)
 case first=>
  by_cases hle:n≤sc
  ·obtain⟨c,hc⟩:∃c:Nat,c=sc+1-n:=⟨_,rfl⟩
   have hrep:=hid (repeat_any ⟨#[48]⟩ c w (by omega) (by rw[show (⟨#[48]⟩:ByteArray).size=1 from rfl,Nat.one_mul];omega))
   have w1:IntKind.i64.wrap ((sc:Int)+1)=(sc:Int)+1:=IntWalk.i64_in _ (by omega)
   have w2:IntKind.i64.wrap ((sc:Int)+1-(D.size:Int))=(c:Int):=by rw[HDs.out,IntWalk.i64_in _ (by omega)];omega
   have e1:D.size≤sc:=by rw[HDs.out];omega
   have e2:(sc:Int)+1-(D.size:Int)=(c:Int):=by rw[HDs.out];omega
   have hpd:=hid (show bK (List.replicate c 48)++D=bK P from by
    rw[←HD.out,←HP.out,bK_app]
    unfold padT
    rw[if_pos (by rw[Hn.out];exact hle),Hn.out,hc])
   have hlist:(⟨#[48]⟩:ByteArray).data.toList=[48]:=rfl
   have hrep2:=hrep.out
   rw[hlist,repeat_zero]at hrep2
   have hrep3:=hid (show Calls Tryz.prog 325 #[.string ⟨#[48]⟩,.int .i64 (c:Int)] w λe w'=>e = .returned (.string (bK (List.replicate c 48)))∧Below w.heap.size w w' from hrep2)
   obtain⟨Z,HZ⟩:=name_itV (bK (List.replicate c 48))
   have hZs:Z.size≤1000001:=by rw[←HZ.out,bK_size,List.length_replicate];omega
   rw[HZ.out]at hrep3 hpd
   have hadd:∀W:World,(Op.stringOp .add Z D).run Tryz.prog W = .ok (.string (Z++D)) W:=λW=>run_string_add_sum W _ _ (by rw[HDs.out];omega)
   clear hrep2 hrep hlist hc
   go_wp2_with fail;refine hrep3.out.mono ?_;rintro e w' ⟨rfl,hB⟩
   have HB:=hid hB
   clear hB
   go_wp2_with fail
   go_meet
   exact⟨by rw[hpd.out],HB.out⟩
  ·have e1:¬D.size≤sc:=by rw[HDs.out];omega
   have hpd:=hid (show D=bK P from by
    rw[←HD.out,←HP.out]
    unfold padT
    rw[if_neg (by rw[Hn.out];exact hle)])
   go_wp2_with fail
   go_meet
   exact⟨by rw[hpd.out],Below.refl _ _⟩
 case rest=>
  obtain⟨rfl,hB1⟩:=hcut
  have HB1:=hid hB1
  clear hB1
  rename World=>w1
  obtain⟨Pb,HPb⟩:=name_itV (bK P)
  have hPs:Pb.size=K+sc:=by rw[←HPb.out,bK_size,←HK.out];omega
  have HPs:=hid hPs
  have hslice1:=hid (show Pb.extract 0 K=bK (P.take K) from by rw[←HPb.out];exact bK_take P)
  have hslice2:=hid (show Pb.extract K Pb.size=bK (P.drop K) from by rw[←HPb.out,bK_size];exact bK_drop P rfl)
  rw[HPb.out]
  have w3:IntKind.i64.wrap ((Pb.size:Int)-(sc:Int))=(K:Int):=by rw[HPs.out,IntWalk.i64_in _ (by omega)];omega
  have w4:(0:Int)≤(K:Int):=by omega
  have w5:(K:Int)≤(Pb.size:Int):=by rw[HPs.out];omega
  have w6:((K:Int)).toNat=K:=rfl
  have htr:=hid (λ(W:World)=>show Calls Tryz.prog 326 #[.string (Pb.extract K Pb.size),.string ⟨#[48]⟩] W λe w'=>e = .returned (.string (bK Pl))∧Below W.heap.size W w' from by
   have:=trimRZero (Pb.extract K Pb.size) W (by rw[hslice2.out,bK_size,List.length_drop];omega)
   rw[hslice2.out,bK_data,hp.out]at this
   rw[hslice2.out]
   exact this)
  clear hPs
  have p1:=hid (show Below w.heap.size w w1.drew from ⟨HB1.out.os,HB1.out.tape,HB1.out.output,HB1.out.size,HB1.out.block⟩)
  go_upto_region 3 with fail
  go_cut [8,9] (λs8 s9 wx=>s8 = .string (bK (P.take K))∧s9 = .string (bK Pl)∧Below w.heap.size w wx)
  case first=>
   go_region_held3 (λw'=>Below w.heap.size w w') (first | exact p1.out | exact HB1.out | exact HB2.out | (trace_state;fail))
    (first | (go_at_call 326;refine (htr.out _).mono ?_;rintro e w2 ⟨rfl,hb2⟩;have HB2:=hid (p1.out.trans (hb2.mono p1.out.size));clear hb2))
   go_wp2_with fail
   go_meet
   exact⟨by rw[hslice1.out],rfl,HB2.out⟩
  case rest=>
   obtain⟨h8,h9,hB2⟩:=hcut
   have HB2:=hid hB2
   clear hB2
   rename World=>w2
   have htl:=hid (λ(W:World)=>show Calls Tryz.prog 327 #[.string (bK (P.take K)),.string ⟨#[48]⟩] W λe w'=>e = .returned (.string (bK Wl))∧Below W.heap.size W w' from by
    have:=trimLZero (bK (P.take K)) W
    rw[bK_data,hw.out]at this
    exact this)
   obtain⟨Tk,HTk⟩:=name_itV (bK (P.take K))
   rw[HTk.out]at htl h8
   subst h8 h9
   obtain⟨wb,Hwb⟩:=name_itV (bK Wl)
   obtain⟨pb,Hpb⟩:=name_itV (bK Pl)
   have hws:wb.size=Wl.length:=by rw[←Hwb.out,bK_size]
   have hps:pb.size=Pl.length:=by rw[←Hpb.out,bK_size]
   have hwt:wb.toList=Wl:=by rw[←Hwb.out,bK_toList]
   have hpt:pb.toList=Pl:=by rw[←Hpb.out,bK_toList]
   have HWS:=hid hws
   have HPS:=hid hps
   have HWT:=hid hwt
   have HPT:=hid hpt
   rw[Hwb.out]at htl
   rw[Hpb.out]
   have hwb2:wb.size≤1000001:=by rw[hws];omega
   have hpb2:pb.size≤1000001:=by rw[hps];omega
   clear hws hps hwt hpt w3 w4 w5 w6
   go_wp2_with fail;refine (htl.out _).mono ?_;rintro e w3 ⟨rfl,hb3⟩
   have HB3:=hid (HB2.out.trans (hb3.mono HB2.out.size))
   clear hb3
   by_cases hov:40<Wl.length∨20<Pl.length
   ·have ht:=hid (show toldT neg d sc=([],2) from by rw[htold.out,if_pos hov])
    by_cases ho1:40<wb.size
    ·have o1:(40:Int)<(wb.size:Int):=by omega
     go_wp2_with fail
     exact bodyPost_ret (v:=.tuple #[.string ⟨#[]⟩,.int .i64 2]) (by simp[results,Tryz.results297,go_sem]) rfl ⟨HB3.out,by rw[ht.out];rfl⟩
    ·have o1:¬(40:Int)<(wb.size:Int):=by omega
     have o2:(20:Int)<(pb.size:Int):=by rw[HPS.out];rw[HWS.out]at ho1;omega
     go_wp2_with fail
     exact bodyPost_ret (v:=.tuple #[.string ⟨#[]⟩,.int .i64 2]) (by simp[results,Tryz.results297,go_sem]) rfl ⟨HB3.out,by rw[ht.out];rfl⟩
   ·have o1:¬(40:Int)<(wb.size:Int):=by rw[HWS.out];omega
    have o2:¬(20:Int)<(pb.size:Int):=by rw[HPS.out];omega
    by_cases hw0:Wl=[]
    ·have q1:wb.toList=[]:=by rw[HWT.out];exact hw0
     by_cases hp0:Pl=[]
     ·have q2:pb.toList=[]:=by rw[HPT.out];exact hp0
      have ht:=hid (show toldT neg d sc=([48,46,48],0) from by rw[htold.out,if_neg hov,if_pos ⟨hw0,hp0⟩])
      clear hov hw0 hp0
      go_wp2_with fail
      exact bodyPost_ret (v:=.tuple #[.string ⟨#[48,46,48]⟩,.int .i64 0]) (by simp[results,Tryz.results297,go_sem]) rfl ⟨HB3.out,by rw[ht.out];rfl⟩
     ·have q2:¬pb.toList=[]:=by rw[HPT.out];exact hp0
      have q2i:pb.toList.isEmpty=false:=by rw[HPT.out];simpa using hp0
      have ht:=hid (show toldT neg d sc=((if neg=true then [45] else [])++[48]++[46]++Pl,0) from by rw[htold.out,if_neg hov,if_neg (λh=>hp0 h.2),if_pos hw0,if_neg hp0])
      clear hov hw0 hp0
      cases neg with
      | true=>
       have a1:∀W:World,(Op.stringOp .add ⟨#[45]⟩ ⟨#[48]⟩).run Tryz.prog W = .ok (.string (⟨#[45]⟩++⟨#[48]⟩)) W:=λW=>run_string_add_sum W _ _ (by decide)
       have a2:∀W:World,(Op.stringOp .add (⟨#[45]⟩++⟨#[48]⟩) ⟨#[46]⟩).run Tryz.prog W = .ok (.string (⟨#[45]⟩++⟨#[48]⟩++⟨#[46]⟩)) W:=λW=>run_string_add_sum W _ _ (by decide)
       have a3:∀W:World,(Op.stringOp .add (⟨#[45]⟩++⟨#[48]⟩++⟨#[46]⟩) pb).run Tryz.prog W = .ok (.string (⟨#[45]⟩++⟨#[48]⟩++⟨#[46]⟩++pb)) W:=λW=>run_string_add_sum W _ _ (by rw[show ((⟨#[45]⟩++⟨#[48]⟩++⟨#[46]⟩:ByteArray)).size=3 from rfl];omega)
       go_wp2_with fail
       exact bodyPost_ret (v:=.tuple #[.string (⟨#[45]⟩++⟨#[48]⟩++⟨#[46]⟩++pb),.int .i64 0]) (by simp[results,Tryz.results297,go_sem]) rfl ⟨HB3.out,by rw[ht.out,←Hpb.out];exact congrArg (λz=>Ending.returned (.tuple #[.string z,.int .i64 0])) (bK_app [45,48,46] Pl)⟩
      | false=>
       have a2:∀W:World,(Op.stringOp .add ⟨#[48]⟩ ⟨#[46]⟩).run Tryz.prog W = .ok (.string (⟨#[48]⟩++⟨#[46]⟩)) W:=λW=>run_string_add_sum W _ _ (by decide)
       have a3:∀W:World,(Op.stringOp .add (⟨#[48]⟩++⟨#[46]⟩) pb).run Tryz.prog W = .ok (.string (⟨#[48]⟩++⟨#[46]⟩++pb)) W:=λW=>run_string_add_sum W _ _ (by rw[show ((⟨#[48]⟩++⟨#[46]⟩:ByteArray)).size=2 from rfl];omega)
       go_wp2_with fail
       exact bodyPost_ret (v:=.tuple #[.string (⟨#[48]⟩++⟨#[46]⟩++pb),.int .i64 0]) (by simp[results,Tryz.results297,go_sem]) rfl ⟨HB3.out,by rw[ht.out,←Hpb.out];exact congrArg (λz=>Ending.returned (.tuple #[.string z,.int .i64 0])) (bK_app [48,46] Pl)⟩
    ·have q1:¬wb.toList=[]:=by rw[HWT.out];exact hw0
     have q1i:wb.toList.isEmpty=false:=by rw[HWT.out];simpa using hw0
     by_cases hp0:Pl=[]
     ·have q2:pb.toList=[]:=by rw[HPT.out];exact hp0
      have ht:=hid (show toldT neg d sc=((if neg=true then [45] else [])++Wl++[46]++[48],0) from by rw[htold.out,if_neg hov,if_neg (λh=>hw0 h.1),if_neg hw0,if_pos hp0])
      clear hov hw0 hp0
      cases neg with
      | true=>
       have a1:∀W:World,(Op.stringOp .add ⟨#[45]⟩ wb).run Tryz.prog W = .ok (.string (⟨#[45]⟩++wb)) W:=λW=>run_string_add_sum W _ _ (by rw[show ((⟨#[45]⟩:ByteArray)).size=1 from rfl];omega)
       have a2:∀W:World,(Op.stringOp .add (⟨#[45]⟩++wb) ⟨#[46]⟩).run Tryz.prog W = .ok (.string (⟨#[45]⟩++wb++⟨#[46]⟩)) W:=λW=>run_string_add_sum W _ _ (by rw[ByteArray.size_append,show ((⟨#[45]⟩:ByteArray)).size=1 from rfl,show ((⟨#[46]⟩:ByteArray)).size=1 from rfl];omega)
       have a3:∀W:World,(Op.stringOp .add (⟨#[45]⟩++wb++⟨#[46]⟩) ⟨#[48]⟩).run Tryz.prog W = .ok (.string (⟨#[45]⟩++wb++⟨#[46]⟩++⟨#[48]⟩)) W:=λW=>run_string_add_sum W _ _ (by rw[ByteArray.size_append,ByteArray.size_append,show ((⟨#[45]⟩:ByteArray)).size=1 from rfl,show ((⟨#[46]⟩:ByteArray)).size=1 from rfl,show ((⟨#[48]⟩:ByteArray)).size=1 from rfl];omega)
       go_wp2_with fail
       exact bodyPost_ret (v:=.tuple #[.string (⟨#[45]⟩++wb++⟨#[46]⟩++⟨#[48]⟩),.int .i64 0]) (by simp[results,Tryz.results297,go_sem]) rfl ⟨HB3.out,by rw[ht.out,←Hwb.out];exact congrArg (λz=>Ending.returned (.tuple #[.string z,.int .i64 0])) (by rw[←bK_app,←bK_app,←bK_app];rfl)⟩
      | false=>
       have a2:∀W:World,(Op.stringOp .add wb ⟨#[46]⟩).run Tryz.prog W = .ok (.string (wb++⟨#[46]⟩)) W:=λW=>run_string_add_sum W _ _ (by rw[show ((⟨#[46]⟩:ByteArray)).size=1 from rfl];omega)
       have a3:∀W:World,(Op.stringOp .add (wb++⟨#[46]⟩) ⟨#[48]⟩).run Tryz.prog W = .ok (.string (wb++⟨#[46]⟩++⟨#[48]⟩)) W:=λW=>run_string_add_sum W _ _ (by rw[ByteArray.size_append,show ((⟨#[46]⟩:ByteArray)).size=1 from rfl,show ((⟨#[48]⟩:ByteArray)).size=1 from rfl];omega)
       go_wp2_with fail
       exact bodyPost_ret (v:=.tuple #[.string (wb++⟨#[46]⟩++⟨#[48]⟩),.int .i64 0]) (by simp[results,Tryz.results297,go_sem]) rfl ⟨HB3.out,by rw[ht.out,←Hwb.out];exact congrArg (λz=>Ending.returned (.tuple #[.string z,.int .i64 0])) (by rw[if_neg (by decide),List.nil_append,←bK_app,←bK_app];rfl)⟩
     ·have q2:¬pb.toList=[]:=by rw[HPT.out];exact hp0
      have q2i:pb.toList.isEmpty=false:=by rw[HPT.out];simpa using hp0
      have ht:=hid (show toldT neg d sc=((if neg=true then [45] else [])++Wl++[46]++Pl,0) from by rw[htold.out,if_neg hov,if_neg (λh=>hp0 h.2),if_neg hw0,if_neg hp0])
      clear hov hw0 hp0
      cases neg with
      | true=>
       have a1:∀W:World,(Op.stringOp .add ⟨#[45]⟩ wb).run Tryz.prog W = .ok (.string (⟨#[45]⟩++wb)) W:=λW=>run_string_add_sum W _ _ (by rw[show ((⟨#[45]⟩:ByteArray)).size=1 from rfl];omega)
       have a2:∀W:World,(Op.stringOp .add (⟨#[45]⟩++wb) ⟨#[46]⟩).run Tryz.prog W = .ok (.string (⟨#[45]⟩++wb++⟨#[46]⟩)) W:=λW=>run_string_add_sum W _ _ (by rw[ByteArray.size_append,show ((⟨#[45]⟩:ByteArray)).size=1 from rfl,show ((⟨#[46]⟩:ByteArray)).size=1 from rfl];omega)
       have a3:∀W:World,(Op.stringOp .add (⟨#[45]⟩++wb++⟨#[46]⟩) pb).run Tryz.prog W = .ok (.string (⟨#[45]⟩++wb++⟨#[46]⟩++pb)) W:=λW=>run_string_add_sum W _ _ (by rw[ByteArray.size_append,ByteArray.size_append,show ((⟨#[45]⟩:ByteArray)).size=1 from rfl,show ((⟨#[46]⟩:ByteArray)).size=1 from rfl];omega)
       go_wp2_with fail
       exact bodyPost_ret (v:=.tuple #[.string (⟨#[45]⟩++wb++⟨#[46]⟩++pb),.int .i64 0]) (by simp[results,Tryz.results297,go_sem]) rfl ⟨HB3.out,by rw[ht.out,←Hwb.out,←Hpb.out];exact congrArg (λz=>Ending.returned (.tuple #[.string z,.int .i64 0])) (by rw[←bK_app,←bK_app,←bK_app];rfl)⟩
      | false=>
       have a2:∀W:World,(Op.stringOp .add wb ⟨#[46]⟩).run Tryz.prog W = .ok (.string (wb++⟨#[46]⟩)) W:=λW=>run_string_add_sum W _ _ (by rw[show ((⟨#[46]⟩:ByteArray)).size=1 from rfl];omega)
       have a3:∀W:World,(Op.stringOp .add (wb++⟨#[46]⟩) pb).run Tryz.prog W = .ok (.string (wb++⟨#[46]⟩++pb)) W:=λW=>run_string_add_sum W _ _ (by rw[ByteArray.size_append,show ((⟨#[46]⟩:ByteArray)).size=1 from rfl];omega)
       go_wp2_with fail
       exact bodyPost_ret (v:=.tuple #[.string (wb++⟨#[46]⟩++pb),.int .i64 0]) (by simp[results,Tryz.results297,go_sem]) rfl ⟨HB3.out,by rw[ht.out,←Hwb.out,←Hpb.out];exact congrArg (λz=>Ending.returned (.tuple #[.string z,.int .i64 0])) (by rw[if_neg (by decide),List.nil_append,←bK_app,←bK_app];rfl)⟩
def GlobB (w:World):Prop:=∃m:Int,w.cell? ⟨Tryz.lays145_ren.g 1,0,none⟩=some (.int .i64 m)
theorem glob_under {w w':World} (h:GlobB w) (hb:Below w.heap.size w w'):GlobB w':=by
 obtain⟨m,hm⟩:=h
 refine⟨m,(hb.cell (p:=⟨Tryz.lays145_ren.g 1,0,none⟩) ?_).trans hm⟩
 refine Classical.byContradiction λhn=>?_
 have:w.heap[Tryz.lays145_ren.g 1]?=none:=Array.getElem?_eq_none (by simpa using hn)
 unfold World.cell? at hm
 simp only[this]at hm
 cases hm
theorem pre_of {s:ByteArray} (c:UInt8):Lib.hasPrefix s.data.toList [c]=(s.data.toList.head?==some c):=by
 unfold Lib.hasPrefix
 cases s.data.toList with
 | nil=>rfl
 | cons d l=>simp[List.isPrefixOf,Bool.beq_eq_decide_eq,eq_comm]
def ProgIs (s:ByteArray) (w:World) (e:Ending) (w':World):Prop:=Below w.heap.size w w'∧e = .returned (.tuple #[.string (readT s).1,.int .i64 (readT s).2])
theorem below_drewN {b:Nat} {w w':World} (h:Below b w w') (m:Nat):Below b w (w'.drewN m):=⟨h.os,h.tape,h.output,h.size,h.block⟩
theorem progRead_any (s:ByteArray) (hs:s.size≤100000) (w:World) (hg:GlobB w):Calls Tryz.prog 255 #[.string s] w (ProgIs s w):=by
 obtain⟨t,HT⟩:=name_itV (sgnT s)
 have ht:t.size≤100000:=by rw[←HT.out];exact Nat.le_trans (sgn_size s) hs
 obtain⟨sb,HSB⟩:=name_itV (sgnB s)
 obtain⟨c1,HC1⟩:=name_itV (Lib.cut t.data.toList [46]).1
 obtain⟨c2,HC2⟩:=name_itV (Lib.cut t.data.toList [46]).2.1
 obtain⟨c3,HC3⟩:=name_itV (Lib.cut t.data.toList [46]).2.2
 have hread:=hid (show ((bK (progT s).1:ByteArray),(progT s).2)=readT s from prog_read s)
 have hprog:=hid (show progT s=(if numL c1=true∧(c3=true→numL c2=true) then toldT sb (c1++c2) c2.length else ([],6)) from by
  unfold progT;simp only[HT.out,HSB.out,HC1.out,HC2.out,HC3.out])
 have hlen:=hid (show c1.length+c2.length≤t.size from by
  rw[←HC1.out,←HC2.out,←data_len t]
  rcases split_dot t.data.toList with h | ⟨a,b,h,hab⟩
  ·rw[cut_no h];simp
  ·rw[h,cut_yes hab];simp)
 have hpm:=hid (λW:World=>prefix_any s ⟨#[45]⟩ W)
 have hpp:=hid (λW:World=>prefix_any s ⟨#[43]⟩ W)
 have hm1:=hid (show Lib.hasPrefix s.data.toList (⟨#[45]⟩:ByteArray).data.toList=sb from by
  rw[←HSB.out];exact pre_of 45)
 have hm2:=hid (show (sb || Lib.hasPrefix s.data.toList (⟨#[43]⟩:ByteArray).data.toList)=sgnY s from by
  rw[←HSB.out,show Lib.hasPrefix s.data.toList (⟨#[43]⟩:ByteArray).data.toList=(s.data.toList.head?==some 43) from pre_of 43];rfl)
 obtain⟨pp,HPP⟩:=name_itV (Lib.hasPrefix s.data.toList (⟨#[43]⟩:ByteArray).data.toList)
 have hpm2:=hid (λW:World=>show Calls Tryz.prog 294 #[.string s,.string ⟨#[45]⟩] W λe w'=>e = .returned (.bool sb)∧w'=W from by have:=hpm.out W;rwa [hm1.out]at this)
 have hpp2:=hid (λW:World=>show Calls Tryz.prog 294 #[.string s,.string ⟨#[43]⟩] W λe w'=>e = .returned (.bool pp)∧w'=W from by have:=hpp.out W;rwa [HPP.out]at this)
 have hm3:=hid (show (sb || pp)=sgnY s from by rw[←HPP.out];exact hm2.out)
 have hsx:=hid (show t=cond (sb || pp) (s.extract 1 s.size) s from by rw[hm3.out,←HT.out];rfl)
 have hpos:=hid (show (sb || pp)=true→0<s.size from by
  intro h
  rw[hm3.out]at h
  refine Classical.byContradiction λh0=>?_
  rw[(sgn_empty h0).2.1]at h;cases h)
 obtain⟨m,hm⟩:=hg
 have HCT:=hid (λ(W:World) (hW:W.cell? ⟨Tryz.lays145_ren.g 1,0,none⟩=some (.int .i64 m))=>show Calls Tryz.prog 295 #[.string t,.string ⟨#[46]⟩] W λe w'=>e = .returned (.tuple #[.string (bK c1),.string (bK c2),.bool c3])∧∃n,w'=W.drewN n from by
  have:=cut_any t ⟨#[46]⟩ m W (by omega) hW
  rw[show (⟨#[46]⟩:ByteArray).data.toList=[46] from rfl,HC1.out,HC2.out,HC3.out]at this
  exact this)
 have HM:=hid hm
 have HB0:=hid (Below.refl w.heap.size w)
 clear hm hpm hpp hm1 hm2 HPP HSB HT
 go_enter Tryz.func255,Tryz.ntmps255
 go_wp2_with fail;refine (hpm2.out _).mono ?_;rintro e w' ⟨rfl,rfl⟩
 go_upto_region 2 with fail
 go_cut [14] (λs14 wx=>s14 = .bool (sb || pp)∧wx=w')
 case first=>
  cases sb with
  | true=>
   go_wp2_with fail
   go_meet
   exact⟨rfl,rfl⟩
  | false=>
   go_wp2_with fail;refine (hpp2.out _).mono ?_;rintro e w' ⟨rfl,rfl⟩
   go_wp2_with fail
   go_meet
   exact⟨rfl,rfl⟩
 case rest=>
  obtain⟨h14,rfl⟩:=hcut
  go_upto_if 14 with fail
  go_cut [0] (λs0 wx=>s0 = .string t∧wx=wc)
  case first=>
   obtain⟨sy,HSY⟩:=name_itV (sb || pp)
   rw[HSY.out]at h14 hpos hsx
   subst h14
   cases sy with
   | true=>
    have hp1:=hpos.out rfl
    have hsx2:=hid (show s.extract 1 s.size=t from hsx.out.symm)
    have e1:(1:Int)≤(s.size:Int):=by omega
    go_wp2_with fail
    go_meet
    exact⟨by rw[hsx2.out],rfl⟩
   | false=>
    have hsx2:=hid (show s=t from hsx.out.symm)
    go_wp2_with fail
    go_meet
    exact⟨by rw[hsx2.out],rfl⟩
  case rest=>
   obtain⟨rfl,rfl⟩:=hcut
   clear h14
   go_wp2_with fail;refine (HCT.out _ HM.out).mono ?_;rintro e w1 ⟨rfl,k,hw1⟩
   have HB1:=below_drewN HB0.out k
   rw[←hw1]at HB1
   have HB1:=hid HB1
   clear hw1
   have hl2:=hlen.out
   have hb2s:(bK c2).size=c2.length:=bK_size c2
   obtain⟨l2,HL2⟩:=name_itV c2.length
   rw[HL2.out]at hl2 hb2s
   have htold:=hid (λW:World=>show Calls Tryz.prog 297 #[.bool sb,.string (bK c1++bK c2),.int .i64 ((bK c2).size:Int)] W (ToldIs sb (c1++c2) c2.length W) from by
    rw[bK_app,hb2s,←HL2.out]
    exact told_any sb (c1++c2) c2.length (by rw[List.length_append,HL2.out];omega) (by rw[HL2.out];omega) W)
   have hn1:=hid (λW:World=>show Calls Tryz.prog 296 #[.string (bK c1)] W (ToldB (numL c1) W) from by
    have:=numeral_any (bK c1) W (by rw[bK_size];omega)
    rwa [numT_eq,bK_data]at this)
   have hn2:=hid (λW:World=>show Calls Tryz.prog 296 #[.string (bK c2)] W (ToldB (numL c2) W) from by
    have:=numeral_any (bK c2) W (by omega)
    rwa [numT_eq,bK_data]at this)
   have hadd:∀W:World,(Op.stringOp .add (bK c1) (bK c2)).run Tryz.prog W = .ok (.string (bK c1++bK c2)) W:=λW=>run_string_add_sum W _ _ (by rw[hb2s,bK_size];omega)
   have hbad:=hid (show ¬(numL c1=true∧(c3=true→numL c2=true))→readT s=(⟨#[]⟩,6) from λh=>by
    rw[←hread.out,hprog.out,if_neg h];rfl)
   have hgood:=hid (show (numL c1=true∧(c3=true→numL c2=true))→readT s=(bK (toldT sb (c1++c2) c2.length).1,(toldT sb (c1++c2) c2.length).2) from λh=>by
    rw[←hread.out,hprog.out,if_pos h])
   obtain⟨x1,HX1⟩:=name_itV (numL c1)
   obtain⟨x2,HX2⟩:=name_itV (numL c2)
   obtain⟨b1,HBb1⟩:=name_itV (bK c1)
   obtain⟨b2,HBb2⟩:=name_itV (bK c2)
   rw[HX1.out]at hn1 hbad hgood
   rw[HX2.out]at hn2 hbad hgood
   rw[HBb1.out]at hn1 hadd htold
   rw[HBb2.out]at hn2 hadd htold hb2s
   rw[HBb1.out,HBb2.out]
   clear hb2s
   cases x1 with
   | false=>
    have hr:=hid (hbad.out (λh=>by cases h.1))
    go_wp2_with fail;refine (hn1.out _).mono ?_;rintro e w2 ⟨rfl,hb2⟩
    have HB2:=hid (HB1.out.trans (hb2.mono HB1.out.size))
    clear hb2
    go_wp2_with fail
    exact bodyPost_ret (v:=.tuple #[.string ⟨#[]⟩,.int .i64 6]) (by simp[results,Tryz.results255,go_sem]) rfl ⟨HB2.out,by rw[hr.out]⟩
   | true=>
    cases c3 with
    | false=>
     have hr:=hid (hgood.out ⟨rfl,λh=>by cases h⟩)
     go_wp2_with fail;refine (hn1.out _).mono ?_;rintro e w2 ⟨rfl,hb2⟩
     have HB2:=hid (HB1.out.trans (hb2.mono HB1.out.size))
     clear hb2
     go_wp2_with fail;refine (htold.out _).mono ?_;rintro e w3 ⟨hb3,rfl⟩
     have HB3:=hid (HB2.out.trans (hb3.mono HB2.out.size))
     clear hb3
     obtain⟨r1,HR1⟩:=name_itV (bK (toldT sb (c1++c2) c2.length).1)
     obtain⟨r2,HR2⟩:=name_itV (toldT sb (c1++c2) c2.length).2
     rw[HR1.out,HR2.out]at hr
     rw[HR1.out,HR2.out]
     go_wp2_with fail
     exact bodyPost_ret (v:=.tuple #[.string r1,.int .i64 r2]) (by simp[results,Tryz.results255,go_sem]) rfl ⟨HB3.out,by rw[hr.out]⟩
    | true=>
     cases x2 with
     | false=>
      have hr:=hid (hbad.out (λh=>by cases h.2 rfl))
      go_wp2_with fail;refine (hn1.out _).mono ?_;rintro e w2 ⟨rfl,hb2⟩
      have HB2:=hid (HB1.out.trans (hb2.mono HB1.out.size))
      clear hb2
      go_wp2_with fail;refine (hn2.out _).mono ?_;rintro e w3 ⟨rfl,hb3⟩
      have HB3:=hid (HB2.out.trans (hb3.mono HB2.out.size))
      clear hb3
      go_wp2_with fail
      exact bodyPost_ret (v:=.tuple #[.string ⟨#[]⟩,.int .i64 6]) (by simp[results,Tryz.results255,go_sem]) rfl ⟨HB3.out,by rw[hr.out]⟩
     | true=>
      have hr:=hid (hgood.out ⟨rfl,λh=>rfl⟩)
      go_wp2_with fail;refine (hn1.out _).mono ?_;rintro e w2 ⟨rfl,hb2⟩
      have HB2:=hid (HB1.out.trans (hb2.mono HB1.out.size))
      clear hb2
      go_wp2_with fail;refine (hn2.out _).mono ?_;rintro e w3 ⟨rfl,hb3⟩
      have HB3:=hid (HB2.out.trans (hb3.mono HB2.out.size))
      clear hb3
      go_wp2_with fail;refine (htold.out _).mono ?_;rintro e w4 ⟨hb4,rfl⟩
      have HB4:=hid (HB3.out.trans (hb4.mono HB3.out.size))
      clear hb4
      obtain⟨r1,HR1⟩:=name_itV (bK (toldT sb (c1++c2) c2.length).1)
      obtain⟨r2,HR2⟩:=name_itV (toldT sb (c1++c2) c2.length).2
      rw[HR1.out,HR2.out]at hr
      rw[HR1.out,HR2.out]
      go_wp2_with fail
      exact bodyPost_ret (v:=.tuple #[.string r1,.int .i64 r2]) (by simp[results,Tryz.results255,go_sem]) rfl ⟨HB4.out,by rw[hr.out]⟩
theorem told_le (neg:Bool) (d:List UInt8) (sc:Nat):(toldT neg d sc).1.length≤62:=by
 unfold toldT
 split
 ·simp
 ·split
  ·simp
  ·rename_i h _
   have h1:(wholeT d sc).length≤40:=by omega
   have h2:(partT d sc).length≤20:=by omega
   simp only[List.length_append]
   have e1:(if neg=true then [(45:UInt8)] else []).length≤1:=by split<;>simp
   have e2:(if wholeT d sc=[] then [(48:UInt8)] else wholeT d sc).length≤40:=by split;exact (by decide);exact h1
   have e3:(if partT d sc=[] then [(48:UInt8)] else partT d sc).length≤20:=by split;exact (by decide);exact h2
   simp only[List.length_cons,List.length_nil]
   omega
theorem dec_long {s:ByteArray} (h:62<s.size):decB s=false:=by
 unfold decB
 rw[←prog_read s]
 have h1:decide ((⟨(progT s).1.toArray⟩:ByteArray)=s)=false:=decide_eq_false λe=>by
  have h2:(progT s).1.length≤62:=by
   unfold progT
   simp only
   split
   ·exact told_le _ _ _
   ·simp
  rw[←e]at h
  simp[ByteArray.size]at h
  omega
 simp only[h1,Bool.and_false]
theorem dec_any (s:ByteArray) (hs:s.size≤9223372036854775807) (w:World) (hg:GlobB w):Calls Tryz.prog 185 #[.string s] w (ToldB (decB s) w):=by
 go_enter Tryz.func185,Tryz.ntmps185
 by_cases hl:62<s.size
 ·have hd:=hid (dec_long hl)
  have e1:(62:Int)<(s.size:Int):=by omega
  go_wp2_with fail
  go_ret
  exact⟨ret_b hd.out.symm,Below.refl _ _⟩
 ·have e1:¬(62:Int)<(s.size:Int):=by omega
  have hrd:=hid (progRead_any s (by omega) w hg)
  go_wp2_with fail
  refine hrd.out.mono ?_
  rintro e w1 ⟨hb,rfl⟩
  have HB:=hid hb
  obtain⟨r1,H1⟩:=name_itV (readT s).1
  obtain⟨r2,H2⟩:=name_itV (readT s).2
  rw[H1.out,H2.out]
  have hd:=hid (show decB s=(decide (r2=0)&&decide (r1=s)) from by unfold decB;rw[H1.out,H2.out])
  clear hb
  by_cases h2:r2=0
  ·have hf:=hid (show (r1.toList==s.toList)=decB s from by
     rw[hd.out,decide_eq_true h2]
     by_cases h1:r1=s
     ·rw[decide_eq_true h1,h1];simp
     ·rw[decide_eq_false h1,strV_ne h1];rfl)
   clear H2
   subst h2
   go_wp2_with fail
   go_ret
   exact⟨ret_b hf.out,HB.out⟩
  ·have hf:=hid (show false=decB s from by rw[hd.out,decide_eq_false h2];rfl)
   go_wp2_with fail
   go_ret
   exact⟨ret_b hf.out,HB.out⟩
end Go.Proofs.YtefhfadjajcmkaaGreatDoor
