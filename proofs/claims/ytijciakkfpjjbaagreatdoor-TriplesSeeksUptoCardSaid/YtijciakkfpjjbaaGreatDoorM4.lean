/- A number's decimal is one. -/
import Derived.Test.YtijciakkfpjjbaaGreatDoorM3
import Derived.Test.YtijciakkfpjjbaaGreatDoorM1
namespace Go.Proofs.YtijciakkfpjjbaaGreatDoor
open Go Go.RowKit

/-- A number's three cells. -/
def cells3 (b : Bool) (s : Value) (k : Int) : Array Value := #[.bool b, s, .int .i64 k]
structure Eq3 (c : Array Value) (b : Bool) (s : Value) (k : Int) : Prop where
 out : cells3 b s k = c
theorem name3 (b : Bool) (s : Value) (k : Int) : ∃ c, Eq3 c b s k := ⟨_, ⟨rfl⟩⟩
theorem Eq3.size {c : Array Value} {b : Bool} {s : Value} {k : Int} (h : Eq3 c b s k) : c.size = 3 := by rw [← h.out]; rfl
theorem Eq3.one {c : Array Value} {b : Bool} {s : Value} {k : Int} (h : Eq3 c b s k) (hs : s.oneCell' = true) : c.all (·.oneCell') = true := by
 rw [← h.out, Array.all_eq_true_iff_forall_mem]
 intro v hv
 unfold cells3 at hv
 simp at hv
 rcases hv with rfl | rfl | rfl
 ·rfl
 ·exact hs
 ·rfl
def RCmpIsD (s t : ByteArray) (w : World) (e : Ending) (w' : World) : Prop := e = .returned (.int .i64 (cmpD s t)) ∧ Below w.heap.size w w'
set_option maxRecDepth 100000 in
set_option maxHeartbeats 8000000 in
theorem refCompareD_any (s t : ByteArray) (hs : decB s = true) (ht : decB t = true) (w : World) :
    Calls Tryz.prog 55 #[.string s, .string t] w (RCmpIsD s t w) := by
 obtain ⟨n1, a1, b1, hs1⟩ := dec_shape hs
 obtain ⟨n2, a2, b2, hs2⟩ := dec_shape ht
 have hl1 : s.size ≤ 1000 := by
  rcases Nat.lt_or_ge 62 s.size with h | h
  ·have := dec_long h; rw [hs] at this; cases this
  ·omega
 have hl2 : t.size ≤ 1000 := by
  rcases Nat.lt_or_ge 62 t.size with h | h
  ·have := dec_long h; rw [ht] at this; cases this
  ·omega
 have hp1 := dec_parse hs1
 have hp2 := dec_parse hs2
 have HSH := Lib.hid (And.intro hs1 hs2)
 have hd1 := revD_length (a1 ++ b1)
 have hd2 := revD_length (a2 ++ b2)
 rw [List.length_append] at hd1 hd2
 have h91 := (parse_some hp1).1
 have h92 := (parse_some hp2).1
 have la1 := hs1.la
 have lb1 := hs1.lb
 have la2 := hs2.la
 have lb2 := hs2.lb
 obtain ⟨D, HD⟩ := name_itV (revD (a1 ++ b1))
 obtain ⟨E, HE⟩ := name_itV (revD (a2 ++ b2))
 obtain ⟨S1, HS1⟩ := name_itV b1.length
 obtain ⟨S2, HS2⟩ := name_itV b2.length
 have HTW := Lib.hid (two_any s t hs ht hl1 hl2 n1 n2 _ _ _ _ (by omega) (by omega) hp1 hp2 w)
 have HRP := Lib.hid (fun (A B : Option Addr) (ca cb : Nat) (W : World) (hA : IntsAt W A (revD (a1 ++ b1))) (hB : IntsAt W B (revD (a2 ++ b2))) => rplus_any n1 (!n2) (revD (a1 ++ b1)) (revD (a2 ++ b2)) b1.length b2.length (by omega) (by omega) (by omega) (by omega) (by omega) (by omega) h91 h92 A B ca cb W hA hB)
 rw [HD.out, HE.out, HS1.out, HS2.out] at HTW HRP
 obtain ⟨n, Hn⟩ := name_itV D.length
 obtain ⟨m, Hm⟩ := name_itV E.length
 have HCM := Lib.hid (fun (ng : Bool) (o : Nat) (h : sgV ng o = sgV n1 (amtD D * bT ^ (max S1 S2 - S1)) + sgV (!n2) (amtD E * bT ^ (max S1 S2 - S2))) => (show cmpD s t = if o = 0 then 0 else if ng = true then -1 else 1 from cmpD_sg hs1 hs2 (by rw [HD.out, HE.out, HS1.out, HS2.out]; exact h)))
 clear hs ht hs1 hs2 hl1 hl2 hp1 hp2 hd1 hd2 h91 h92 la1 lb1 la2 lb2
 go_enter Tryz.func55, Tryz.ntmps55
 go_wp2_with fail
 refine HTW.out.mono ?_
 rintro e w2 ⟨A, ca, B, cb, rfl, hb2, hi2, hj2⟩
 have HB2 := Lib.hid hb2
 have HI2 := Lib.hid hi2
 have HJ2 := Lib.hid hj2
 obtain ⟨e1, He1⟩ := name3 n1 (.slice A D.length ca) S1
 obtain ⟨e2, He2⟩ := name3 n2 (.slice B E.length cb) S2
 obtain ⟨e3, He3⟩ := name3 (!n2) (.slice B E.length cb) S2
 have HPL := Lib.hid (fun (W : World) (hA : IntsAt W A D) (hB : IntsAt W B E) => (show Calls Tryz.prog 80 #[.agg e1, .agg e3] W (RPlusIs n1 (amtD D * bT ^ (max S1 S2 - S1)) (!n2) (amtD E * bT ^ (max S1 S2 - S2)) W) from by
  rw [← He1.out, ← He3.out]
  exact HRP.out A B ca cb W hA hB))
 have e1E : (#[.bool n1, .slice A D.length ca, .int .i64 (S1 : Int)] : Array Value) = e1 := He1.out
 have e2E : (#[.bool n2, .slice B E.length cb, .int .i64 (S2 : Int)] : Array Value) = e2 := He2.out
 rw [e1E, e2E]
 clear e1E e2E
 have HSN := Lib.hid (show e2.setIfInBounds 0 (.bool (!n2)) = e3 from by rw [← He2.out, ← He3.out]; rfl)
 have HN2 := Lib.hid (show e2[0]? = some (.bool n2) from by rw [← He2.out]; rfl)
 obtain ⟨V1, HV1⟩ := name_itV (amtD D * bT ^ (max S1 S2 - S1))
 obtain ⟨V2, HV2⟩ := name_itV (amtD E * bT ^ (max S1 S2 - S2))
 rw [HV1.out, HV2.out] at HPL HCM
 have Q1 := Lib.hid He1.size
 have Q2 := Lib.hid He2.size
 have Q3 := Lib.hid He3.size
 have O1 := Lib.hid (He1.one rfl)
 have O2 := Lib.hid (He2.one rfl)
 have I1 := Lib.hid (show (Tryz.prog.info? 117).map (·.size) = some e1.size from by rw [Q1.out]; kernel_rfl)
 have I2 := Lib.hid (show (Tryz.prog.info? 117).map (·.size) = some e2.size from by rw [Q2.out]; kernel_rfl)
 have I3 := Lib.hid (show (Tryz.prog.info? 117).map (·.size) = some e3.size from by rw [Q3.out]; kernel_rfl)
 obtain ⟨z, Hz⟩ := name_itV w2.heap.size
 obtain ⟨w3, HW3⟩ := name_itV ((w2.alloc (.cells #[.bool false, .slice none 0 0, .int .i64 0] 117)).alloc (.cells #[.bool false, .slice none 0 0, .int .i64 0] 117))
 have HX3 := Lib.hid (show w3.heap[z]? = some (.cells #[.bool false, .slice none 0 0, .int .i64 0] 117 (0, 0)) from by rw [← HW3.out, ← Hz.out]; exact heap_alloc2_old w2 _ _)
 have HY3 := Lib.hid (show w3.heap[z + 1]? = some (.cells #[.bool false, .slice none 0 0, .int .i64 0] 117 (0, 0)) from by rw [← HW3.out, ← Hz.out]; exact heap_alloc2_new w2 _ _)
 have HB3 := Lib.hid (show Below w2.heap.size w2 w3 from by rw [← HW3.out]; exact two_new _ _ _)
 have HWz := Lib.hid (And.intro HW3.out Hz.out)
 clear hb2 hi2 hj2
 go_upto_region 2 with (first
  | ((with_reducible refine at_st 5 ?_); refine st_row rfl 117 _ _ rfl w2.heap.size #[.bool false, .slice none 0 0, .int .i64 0] e1 117 rfl rfl (by have h := HX3.out; rw [← HWz.out.1, ← HWz.out.2] at h; exact h) Q1.out I1.out O1.out ?_; intro w4 hg4 ht4)
  | ((with_reducible refine at_st 6 ?_); refine st_row rfl 117 _ _ rfl (w2.heap.size + 1) #[.bool false, .slice none 0 0, .int .i64 0] e2 117 rfl rfl (by have h := HY3.out; rw [← HWz.out.1, ← HWz.out.2] at h; exact ht4.heap h (show ¬ w2.heap.size + 1 = w2.heap.size by omega)) Q2.out I2.out O2.out ?_; intro w5 hg5 ht5))
 rw [HWz.out.2] at hg4 hg5 ht5 ⊢
 rw [HWz.out.1] at ht4
 rw [HWz.out.2] at ht4
 have HX5 := Lib.hid (ht5.heap hg4 (show ¬ z = z + 1 by omega))
 have HY5 := Lib.hid hg5
 have HB25 := Lib.hid (HB3.out.trans ((ht4.below (B := w2.heap.size) (fun b _ h => by have h : b = z := h; have := Hz.out; omega) HB3.out.size).trans (ht5.below (B := w2.heap.size) (fun b _ h => by have h : b = z + 1 := h; have := Hz.out; omega) (Nat.le_trans HB3.out.size ht4.size))))
 have HB5 := Lib.hid (HB2.out.trans (HB25.out.mono HB2.out.size))
 clear hg4 hg5 ht4 ht5
 have y0 : w5.cell? ⟨z + 1, 0, none⟩ = some (.bool n2) := (cell_of_row _ _ _ _ _ _ HY5.out).trans HN2.out
 have yf : w5.frozen? ⟨z + 1, 0, none⟩ = false := frozen_of_row _ _ _ _ _ HY5.out
 go_upto_region 5 with fail
 obtain ⟨w6, HW6⟩ := name_itV (w5.setCell ⟨z + 1, 0, none⟩ (.bool (!n2)))
 have HX6 := Lib.hid (show w6.heap[z]? = some (.cells e1 117 (0, 0)) from by rw [← HW6.out, heap_setCell_other _ _ _ _ (show z ≠ z + 1 by omega)]; exact HX5.out)
 have HY6 := Lib.hid (show w6.heap[z + 1]? = some (.cells e3 117 (0, 0)) from by
  rw [← HW6.out, ← HSN.out]
  exact heap_setCell_same _ _ _ _ _ _ HY5.out)
 have HB26 := Lib.hid (show Below w2.heap.size w2 w6 from by rw [← HW6.out]; exact HB25.out.setCell (by show w2.heap.size ≤ z + 1; have := Hz.out; omega) _)
 have HB6 := Lib.hid (HB2.out.trans (HB26.out.mono HB2.out.size))
 have HPL6 := Lib.hid (HPL.out w6 (HI2.out.under HB26.out) (HJ2.out.under HB26.out))
 have HL1 := Lib.hid (range_row HX6.out)
 have HL2 := Lib.hid (range_row HY6.out)
 rw [HW6.out]
 clear y0 yf
 go_wp2_with (first
  | ((with_reducible refine at_dst (some 22) ?_); refine ld_arm rfl 117 _ rfl z 0 rfl e1 _ (HL1.out) Tryz.underlying117 rfl I1.out ?_)
  | ((with_reducible refine at_dst (some 23) ?_); refine ld_arm rfl 117 _ rfl (z + 1) 0 rfl e3 _ (HL2.out) Tryz.underlying117 rfl I3.out ?_))
 refine HPL6.out.mono ?_
 rintro e w7 ⟨ng, O, s7, sc, rfl, hb7, ho7, h97, hl7, hv7⟩
 obtain ⟨A7, c7, rfl, hi7⟩ := ints_of_own ho7
 have HCS := Lib.hid (HCM.out ng (amtD O) hv7)
 have HB7 := Lib.hid (HB6.out.trans (hb7.mono HB6.out.size))
 have HI7 := Lib.hid hi7
 have HL7 := Lib.hid hl7
 obtain ⟨o, Ho⟩ := name_itV O.length
 rw [Ho.out]
 obtain ⟨e4, He4⟩ := name3 ng (.slice A7 o c7) sc
 have e4E : (#[.bool ng, .slice A7 o c7, .int .i64 sc] : Array Value) = e4 := He4.out
 rw [e4E]
 clear e4E
 have Q4 := Lib.hid He4.size
 have O4 := Lib.hid (He4.one rfl)
 have I4 := Lib.hid (show (Tryz.prog.info? 117).map (·.size) = some e4.size from by rw [Q4.out]; kernel_rfl)
 have N4 := Lib.hid (show e4[0]? = some (.bool ng) ∧ e4[1]? = some (.slice A7 o c7) from by rw [← He4.out]; exact ⟨rfl, rfl⟩)
 have HX8 := Lib.hid (show (w7.alloc (.cells #[.bool false, .slice none 0 0, .int .i64 0] 117)).heap[w7.heap.size]? = some (.cells #[.bool false, .slice none 0 0, .int .i64 0] 117 (0, 0)) from heap_alloc_new w7 _)
 have hzr := Lib.hid (fun (W : World) (h : IntsAt W A7 O) => zero_any O (by omega) A7 c7 W h)
 rw [Ho.out] at hzr
 obtain ⟨p, Hp⟩ := name_itV (amtD O)
 rw [Hp.out] at HCS
 have HZP := Lib.hid (show zeroD O = decide (p = 0) from by rw [← Hp.out]; exact zero_amt O)
 obtain ⟨zo, Hzo⟩ := name_itV (zeroD O)
 rw [Hzo.out] at hzr HZP
 clear hb7 ho7 h97 hl7 hv7 hi7 Hp Hzo
 go_upto_region 6 with (first
  | ((with_reducible refine at_st 8 ?_); refine st_row rfl 117 _ _ rfl w7.heap.size #[.bool false, .slice none 0 0, .int .i64 0] e4 117 rfl rfl HX8.out Q4.out I4.out O4.out ?_; intro w8 hg8 ht8))
 have HB78 := Lib.hid (((Below.refl w7.heap.size w7).alloc (Nat.le_refl _) _).trans (ht8.below (B := w7.heap.size) (fun b _ h => by have h : b = w7.heap.size := h; omega) (by simp)))
 have HB8 := Lib.hid (HB7.out.trans (HB78.out.mono HB7.out.size))
 have HI8 := Lib.hid (HI7.out.under HB78.out)
 have n0 : w8.cell? ⟨w7.heap.size, 0, none⟩ = some (.bool ng) := (cell_of_row _ _ _ _ _ _ hg8).trans N4.out.1
 have n1' : w8.cell? ⟨w7.heap.size, 1, none⟩ = some (.slice A7 o c7) := (cell_of_row _ _ _ _ _ _ hg8).trans N4.out.2
 obtain ⟨z8, Hz8⟩ := name_itV w7.heap.size
 rw [Hz8.out] at n0 n1' ⊢
 clear hg8 ht8
 go_wp2_with fail
 refine (hzr.out w8 HI8.out).mono ?_
 rintro e w9 ⟨rfl, q9, hw9⟩
 have HB9 := Lib.hid (show Below w.heap.size w w9 from by rw [hw9]; exact below_drewN HB8.out q9)
 have n9 : w9.cell? ⟨z8, 0, none⟩ = some (.bool ng) := by rw [hw9]; exact n0
 clear hw9 n0 n1'
 by_cases hp : p = 0
 ·have hr := Lib.hid (show (0 : Int) = cmpD s t from by rw [HCS.out, if_pos hp])
  have hz : zo = true := HZP.out.trans (decide_eq_true hp)
  clear hp
  subst hz
  go_wp2_with fail
  go_ret
  exact ⟨by rw [hr.out]; rfl, HB9.out⟩
 ·have hz : zo = false := HZP.out.trans (decide_eq_false hp)
  have HNP := Lib.hid hp
  clear hp
  subst hz
  cases ng with
  | true =>
   have hr := Lib.hid (show (-1 : Int) = cmpD s t from by rw [HCS.out, if_neg HNP.out, if_pos rfl])
   go_wp2_with fail
   go_ret
   exact ⟨by rw [hr.out]; rfl, HB9.out⟩
  | false =>
   have hr := Lib.hid (show (1 : Int) = cmpD s t from by rw [HCS.out, if_neg HNP.out, if_neg Bool.false_ne_true])
   go_wp2_with fail
   go_ret
   exact ⟨by rw [hr.out]; rfl, HB9.out⟩
end Go.Proofs.YtijciakkfpjjbaaGreatDoor
namespace Go.Proofs.YtijciakkfpjjbaaGreatDoor
open Go Go.RowKit

/-- What part makes of a value. -/
def partV (v : Val) (s : Value) : Value :=
 if v.kind = 0 then .iface 168 (.agg #[])
 else if v.kind = 1 then .iface 164 (.bool v.truth)
 else if v.kind = 2 then .iface 158 (.int .i64 v.num)
 else if v.kind = 3 then .iface 159 (.string v.text)
 else if v.kind = 4 then .iface 169 (.string v.text)
 else if v.kind = 8 then .iface 169 (.string v.text)
 else if v.kind = 9 then .iface 169 (.string v.text)
 else if v.kind = 5 then .iface 160 (s)
 else if v.kind = 6 then .iface 162 (.int .i64 v.num)
 else if v.kind = 7 then .iface 162 (.int .i64 v.num)
 else if v.kind = 10 then .iface 172 (.agg #[.string v.text, .string v.extra])
 else .iface 173 (.int .i64 v.kind)

def PartIs (v : Val) (s : Value) (w : World) (e : Ending) (w' : World) : Prop := e = .returned (partV v s) ∧ Below w.heap.size w w'

set_option maxRecDepth 100000 in
set_option maxHeartbeats 2000000 in
theorem part_any (v : Val) (s : Value) (w : World) : Calls Tryz.prog 122 #[.agg (cellsV v s)] w (PartIs v s w) := by
 obtain ⟨p, HP⟩ := name_itV (partV v s)
 unfold PartIs
 rw [HP.out]
 unfold partV at HP
 cases v with
 | mk k b n t x l =>
 simp only [cellsV, Val.kind, Val.truth, Val.num, Val.text, Val.extra] at HP ⊢
 by_cases h0 : k = 0
 ·subst h0
  have hp := Lib.hid (show Ending.returned p = .returned (.iface 168 (.agg #[])) from by rw [← HP.out]; rfl)
  clear HP
  go_enter Tryz.func122, Tryz.ntmps122
  go_wp2_with fail
  go_ret
  exact ⟨hp.out.symm, (Below.refl _ _).alloc (Nat.le_refl _) _⟩
 ·have e0 : ((k : Int) == 0) = false := beq_eq_false_iff_ne.2 h0
  by_cases h1 : k = 1
  ·subst h1
   have hp := Lib.hid (show Ending.returned p = .returned (.iface 164 (.bool b)) from by rw [← HP.out]; rfl)
   clear HP
   go_enter Tryz.func122, Tryz.ntmps122
   go_wp2_with fail
   go_ret
   exact ⟨hp.out.symm, (Below.refl _ _).alloc (Nat.le_refl _) _⟩
  ·have e1 : ((k : Int) == 1) = false := beq_eq_false_iff_ne.2 h1
   by_cases h2 : k = 2
   ·subst h2
    have hp := Lib.hid (show Ending.returned p = .returned (.iface 158 (.int .i64 n)) from by rw [← HP.out]; rfl)
    clear HP
    go_enter Tryz.func122, Tryz.ntmps122
    go_wp2_with fail
    go_ret
    exact ⟨hp.out.symm, (Below.refl _ _).alloc (Nat.le_refl _) _⟩
   ·have e2 : ((k : Int) == 2) = false := beq_eq_false_iff_ne.2 h2
    by_cases h3 : k = 3
    ·subst h3
     have hp := Lib.hid (show Ending.returned p = .returned (.iface 159 (.string t)) from by rw [← HP.out]; rfl)
     clear HP
     go_enter Tryz.func122, Tryz.ntmps122
     go_wp2_with fail
     go_ret
     exact ⟨hp.out.symm, (Below.refl _ _).alloc (Nat.le_refl _) _⟩
    ·have e3 : ((k : Int) == 3) = false := beq_eq_false_iff_ne.2 h3
     by_cases h4 : k = 4
     ·subst h4
      have hp := Lib.hid (show Ending.returned p = .returned (.iface 169 (.string t)) from by rw [← HP.out]; rfl)
      clear HP
      go_enter Tryz.func122, Tryz.ntmps122
      go_wp2_with fail
      go_ret
      exact ⟨hp.out.symm, (Below.refl _ _).alloc (Nat.le_refl _) _⟩
     ·have e4 : ((k : Int) == 4) = false := beq_eq_false_iff_ne.2 h4
      by_cases h8 : k = 8
      ·subst h8
       have hp := Lib.hid (show Ending.returned p = .returned (.iface 169 (.string t)) from by rw [← HP.out]; rfl)
       clear HP
       go_enter Tryz.func122, Tryz.ntmps122
       go_wp2_with fail
       go_ret
       exact ⟨hp.out.symm, (Below.refl _ _).alloc (Nat.le_refl _) _⟩
      ·have e8 : ((k : Int) == 8) = false := beq_eq_false_iff_ne.2 h8
       by_cases h9 : k = 9
       ·subst h9
        have hp := Lib.hid (show Ending.returned p = .returned (.iface 169 (.string t)) from by rw [← HP.out]; rfl)
        clear HP
        go_enter Tryz.func122, Tryz.ntmps122
        go_wp2_with fail
        go_ret
        exact ⟨hp.out.symm, (Below.refl _ _).alloc (Nat.le_refl _) _⟩
       ·have e9 : ((k : Int) == 9) = false := beq_eq_false_iff_ne.2 h9
        by_cases h5 : k = 5
        ·subst h5
         have hp := Lib.hid (show Ending.returned p = .returned (.iface 160 (s)) from by rw [← HP.out]; rfl)
         clear HP
         go_enter Tryz.func122, Tryz.ntmps122
         go_wp2_with fail
         go_ret
         exact ⟨hp.out.symm, (Below.refl _ _).alloc (Nat.le_refl _) _⟩
        ·have e5 : ((k : Int) == 5) = false := beq_eq_false_iff_ne.2 h5
         by_cases h6 : k = 6
         ·subst h6
          have hp := Lib.hid (show Ending.returned p = .returned (.iface 162 (.int .i64 n)) from by rw [← HP.out]; rfl)
          clear HP
          go_enter Tryz.func122, Tryz.ntmps122
          go_wp2_with fail
          go_ret
          exact ⟨hp.out.symm, (Below.refl _ _).alloc (Nat.le_refl _) _⟩
         ·have e6 : ((k : Int) == 6) = false := beq_eq_false_iff_ne.2 h6
          by_cases h7 : k = 7
          ·subst h7
           have hp := Lib.hid (show Ending.returned p = .returned (.iface 162 (.int .i64 n)) from by rw [← HP.out]; rfl)
           clear HP
           go_enter Tryz.func122, Tryz.ntmps122
           go_wp2_with fail
           go_ret
           exact ⟨hp.out.symm, (Below.refl _ _).alloc (Nat.le_refl _) _⟩
          ·have e7 : ((k : Int) == 7) = false := beq_eq_false_iff_ne.2 h7
           by_cases h10 : k = 10
           ·subst h10
            have hp := Lib.hid (show Ending.returned p = .returned (.iface 172 (.agg #[.string t, .string x])) from by rw [← HP.out]; rfl)
            clear HP
            go_enter Tryz.func122, Tryz.ntmps122
            go_wp2_with fail
            go_ret
            exact ⟨hp.out.symm, (Below.refl _ _).alloc (Nat.le_refl _) _⟩
           ·have e10 : ((k : Int) == 10) = false := beq_eq_false_iff_ne.2 h10
            have hp := Lib.hid (show Ending.returned p = .returned (.iface 173 (.int .i64 k)) from by rw [← HP.out]; simp only [h0, h1, h2, h3, h4, h8, h9, h5, h6, h7, h10, if_false])
            clear HP
            go_enter Tryz.func122, Tryz.ntmps122
            go_wp2_with fail
            go_ret
            exact ⟨hp.out.symm, (Below.refl _ _).alloc (Nat.le_refl _) _⟩
end Go.Proofs.YtijciakkfpjjbaaGreatDoor
namespace Go.Proofs.YtijciakkfpjjbaaGreatDoor
open Go Go.RowKit

/-- Has a value no more than what its kind keeps? -/
def cmpB (k : Int) (b : Bool) (n : Int) (t x : ByteArray) (l : List Val) (b' : Bool) (n' : Int) (t' x' : ByteArray) : Bool :=
 (b == b') && (decide (n = n') && (decide (t = t') && (decide (x = x') && (decide (l.length = 0) || decide (k = 5)))))
mutual
/-- May a value be, so deep in others? -/
def mayV : Val → Nat → Bool
 | .mk k b n t x l, d =>
  if k = 0 then cmpB k b n t x l false 0 ⟨#[]⟩ ⟨#[]⟩
  else if k = 1 then cmpB k b n t x l b 0 ⟨#[]⟩ ⟨#[]⟩
  else if k = 2 then cmpB k b n t x l false n ⟨#[]⟩ ⟨#[]⟩
  else if k = 3 then decB t && cmpB k b n t x l false 0 t ⟨#[]⟩
  else if k = 4 then decide (t.size ≤ 1048576) && cmpB k b n t x l false 0 t ⟨#[]⟩
  else if k = 8 then iriB t && cmpB k b n t x l false 0 t ⟨#[]⟩
  else if k = 9 then nameB t && cmpB k b n t x l false 0 t ⟨#[]⟩
  else if k = 5 then decide (l.length ≤ 4096) && (decide (d < 60) && (mayL l (d + 1) && cmpB k b n t x l false 0 ⟨#[]⟩ ⟨#[]⟩))
  else if k = 6 then decide (0 ≤ n) && cmpB k b n t x l false n ⟨#[]⟩ ⟨#[]⟩
  else if k = 7 then decide (0 ≤ n) && cmpB k b n t x l false n ⟨#[]⟩ ⟨#[]⟩
  else if k = 10 then decide (t.size ≤ 1048576) && (iriB x && cmpB k b n t x l false 0 t x)
  else false
def mayL : List Val → Nat → Bool
 | [], _ => true
 | v :: r, d => mayV v d && mayL r d
end
theorem mayL_all (l : List Val) (d : Nat) : mayL l d = l.all fun v => mayV v d := by
 induction l with
 | nil => simp [mayL]
 | cons v r ih => simp [mayL, ih]

set_option maxRecDepth 100000 in
set_option maxHeartbeats 1000000 in
theorem clos_any (d : Nat) (hd : d < 60) (ca : Addr) (v : Val) (s : Value) (r : Bool) (w : World) (hc : w.cell? ca = some (.int .i64 (d : Int))) (hlt : ca.block < w.heap.size)
    (hck : ∀ W : World, Below w.heap.size w W → Calls Tryz.prog 89 #[.agg (cellsV v s), .int .i64 ((d + 1 : Nat) : Int)] W (ToldB r W)) :
    Calls Tryz.prog 134 #[.agg (cellsV v s), .pointer (some ca)] w (ToldB (!r) w) := by
 have HCK := Lib.hid hck
 clear hck
 have hca := Lib.hid (fun o : Obj => show (w.alloc o).cell? ca = some (.int .i64 (d : Int)) from (((Below.refl w.heap.size w).alloc (Nat.le_refl _) o).cell (p := ca) hlt).trans hc)
 unfold cellsV at HCK ⊢
 cases v with
 | mk k b n t x l =>
 simp only [Val.kind, Val.truth, Val.num, Val.text, Val.extra] at HCK ⊢
 have c1 := hca.out (.cells #[.int .i64 k, .bool b, .int .i64 n, .string t, .string x, s] 34)
 obtain ⟨d1, HD1⟩ := name_itV (d + 1)
 rw [HD1.out] at HCK
 have w1 : IntKind.i64.wrap ((d : Int) + 1) = (d1 : Int) := by rw [IntWalk.i64_in _ (by omega), ← HD1.out]; push_cast; rfl
 have w2 : (d : Int) + 1 = (d1 : Int) := by rw [← HD1.out]; push_cast; rfl
 clear hc
 go_enter Tryz.func134, Tryz.ntmps134
 go_wp2_with fail; refine (HCK.out _ ((Below.refl _ _).alloc (Nat.le_refl _) _)).mono ?_; rintro e w3 ⟨rfl, hb⟩
 have HB := Lib.hid (((Below.refl w.heap.size w).alloc (Nat.le_refl _) (.cells #[.int .i64 k, .bool b, .int .i64 n, .string t, .string x, s] 34)).trans (hb.mono (by simp)))
 clear hb
 go_wp2_with fail
 go_ret
 exact ⟨rfl, HB.out⟩

def IdxIs (l : List Val) (d : Nat) (w : World) (e : Ending) (w' : World) : Prop := ∃ r : Int, e = .returned (.int .i64 r) ∧ (decide (0 ≤ r) = !mayL l d) ∧ Below w.heap.size w w'
set_option maxRecDepth 100000 in
set_option maxHeartbeats 1000000 in
theorem idx_any (l : List Val) (d : Nat) (hd : d < 60) (ca : Addr) (F : Nat → Prop) (A : Option Addr) (n cap : Nat) (w : World) (hF : ∀ g, F g → g < w.heap.size) (hl : LRd w F l A n) (hn : n ≤ 4096)
    (hc : w.cell? ca = some (.int .i64 (d : Int))) (hca : ca.block < w.heap.size)
    (hck : ∀ (x : Val) (_ : x ∈ l) (u : Value) (W : World), Below w.heap.size w W → VRd W F x u → Calls Tryz.prog 89 #[u, .int .i64 ((d + 1 : Nat) : Int)] W (ToldB (mayV x (d + 1)) W)) :
    Calls Tryz.prog 164 #[.slice A n cap, .func (.func 134) #[] #[.pointer (some ca)]] w (IdxIs l (d + 1) w) := by
 have HL := Lib.hid hl
 have HF := Lib.hid hF
 have HCK := Lib.hid hck
 have HC := Lib.hid hc
 have hln := Lib.hid hl.1
 clear hl hF hck hc
 go_enter Tryz.func164, Tryz.ntmps164
 go_wp2_with fail
 go_loopw [8] (fun s8 wr => ∃ k : Nat, k ≤ n ∧ s8 = .int .i64 (k : Nat) ∧ Hid (((l.take k).all fun v => mayV v (d + 1)) = true) ∧ Hid (Below w.heap.size w wr)) (fun s8 _ => n - (intOf s8).toNat)
 case atStart => exact ⟨0, by omega, rfl, Lib.hid (by simp), Lib.hid (Below.refl _ _)⟩
 case round =>
  obtain ⟨k, hk, rfl, hall, hB⟩ := hrel
  by_cases hlt : k < n
  ·obtain ⟨x, hx⟩ : ∃ x, l[k]? = some x := ⟨l[k]'(by rw [← hln.out]; exact hlt), List.getElem?_eq_getElem _⟩
   have HR := Lib.hid (HL.out.under hB.out HF.out)
   obtain ⟨ad, s, rfl, hFa, ⟨B, capx, rfl, hcapx, hlx⟩, hv, c0, c1, c2, c3, c4, c5⟩ := HR.out.cellsAt hx
   have HX := Lib.hid hx
   have hmem := Lib.hid (List.mem_of_getElem? hx)
   have hcl := Lib.hid (clos_any d hd ca x (.slice B x.list.length capx) (mayV x (d + 1)) wr ((hB.out.cell (p := ca) hca).trans HC.out) (Nat.lt_of_lt_of_le hca hB.out.size)
    (fun W hW => HCK.out x hmem.out _ W (hB.out.trans (hW.mono hB.out.size)) (hv.under hW (fun g hg => Nat.lt_of_lt_of_le (HF.out g hg) hB.out.size))))
   have hmore := Lib.hid (fun (h : mayV x (d + 1) = true) => show ((l.take (k + 1)).all fun v => mayV v (d + 1)) = true from by
    rw [take_oneMore HX.out, List.all_append, hall.out]; simp [h])
   have hstop := Lib.hid (fun (h : mayV x (d + 1) = false) => show mayL l (d + 1) = false from by
    rw [mayL_all, List.all_eq_false]
    exact ⟨x, hmem.out, by simp [h]⟩)
   obtain ⟨r, Hr⟩ := name_itV (mayV x (d + 1))
   rw [Hr.out] at hcl hmore hstop
   unfold cellsV at hcl
   have e1 : (0 : Int) ≤ k := by omega
   have e2 : (k : Int) < n := by omega
   clear hx hlx hv hFa
   go_wp2_with fail
   refine hcl.out.mono ?_
   rintro e w2 ⟨rfl, hb2⟩
   have HB2 := Lib.hid (hB.out.trans (hb2.mono hB.out.size))
   clear hb2
   cases r with
   | true =>
    have HM := Lib.hid (hmore.out rfl)
    have w1 : IntKind.i64.wrap ((k : Int) + 1) = (k : Int) + 1 := IntWalk.i64_in _ (by omega)
    go_wp2_with fail
    go_roundw
    case rel => exact ⟨k + 1, by omega, by go_num, HM, HB2⟩
    case measure => simp [intOf]; omega
   | false =>
    have HS := Lib.hid (hstop.out rfl)
    go_wp2_with fail
    go_ret
    exact ⟨(k : Int), rfl, by rw [HS.out]; simp, HB2.out⟩
  ·have hke : k = n := by omega
   have HS := Lib.hid (show mayL l (d + 1) = true from by
    have := hall.out
    rw [List.take_of_length_le (by rw [hke, hln.out]; exact Nat.le_refl _)] at this
    rw [mayL_all]; exact this)
   subst hke
   go_wp2_with fail
   go_ret
   exact ⟨-1, rfl, by rw [HS.out]; simp, hB.out⟩
set_option maxRecDepth 100000 in
set_option maxHeartbeats 1000000 in
theorem cont_any (l : List Val) (d : Nat) (f : Value) (A : Option Addr) (n cap : Nat) (w : World)
    (hi : Calls Tryz.prog 164 #[.slice A n cap, f] w (IdxIs l d w)) :
    Calls Tryz.prog 133 #[.slice A n cap, f] w (ToldB (!mayL l d) w) := by
 have HI := Lib.hid hi
 clear hi
 go_enter Tryz.func133, Tryz.ntmps133
 go_wp2_with fail
 refine HI.out.mono ?_
 rintro e w1 ⟨r, rfl, hr, hb⟩
 have HR := Lib.hid hr
 have HB := Lib.hid hb
 clear hr hb
 go_wp2_with fail
 go_ret
 exact ⟨by rw [← HR.out]; rfl, HB.out⟩
end Go.Proofs.YtijciakkfpjjbaaGreatDoor
namespace Go.Proofs.YtijciakkfpjjbaaGreatDoor
open Go

/-- An order that tells -1, 0 or 1. -/
structure LinC {α : Type} (c : α → α → Int) : Prop where
 val : ∀ a b, c a b = -1 ∨ c a b = 0 ∨ c a b = 1
 eqv : ∀ a b, c a b = 0 ↔ a = b
 anti : ∀ a b, c b a = -c a b
 trans : ∀ a b d, c a b ≤ 0 → c b d ≤ 0 → c a d ≤ 0
section
variable {α β : Type} {c : α → α → Int} {e : β → β → Int}
theorem LinC.refl (h : LinC c) (a : α) : c a a = 0 := (h.eqv a a).2 rfl
theorem LinC.lt_trans (h : LinC c) {a b d : α} (h1 : c a b < 0) (h2 : c b d ≤ 0) : c a d < 0 := by
 have h3 := h.trans a b d (by omega) h2
 rcases Int.lt_or_eq_of_le h3 with h4 | h4
 ·exact h4
 ·have h5 := (h.eqv a d).1 h4
  subst h5
  have := h.anti a b
  omega
theorem LinC.trans_lt (h : LinC c) {a b d : α} (h1 : c a b ≤ 0) (h2 : c b d < 0) : c a d < 0 := by
 have h3 := h.trans a b d h1 (by omega)
 rcases Int.lt_or_eq_of_le h3 with h4 | h4
 ·exact h4
 ·have h5 := (h.eqv a d).1 h4
  subst h5
  have := h.anti a b
  omega
/-- One order, then another. -/
def thenC (x y : Int) : Int := if x = 0 then y else x
theorem LinC.prod (h : LinC c) (k : LinC e) : LinC (fun p q : α × β => thenC (c p.1 q.1) (e p.2 q.2)) where
 val p q := by
  unfold thenC
  split
  ·exact k.val _ _
  ·exact h.val _ _
 eqv p q := by
  unfold thenC
  constructor
  ·intro h0
   split at h0
   ·rename_i h1
    exact Prod.ext ((h.eqv _ _).1 h1) ((k.eqv _ _).1 h0)
   ·rename_i h1
    exact absurd h0 h1
  ·rintro rfl
   rw [if_pos (h.refl _)]
   exact k.refl _
 anti p q := by
  unfold thenC
  have h1 := h.anti p.1 q.1
  have h2 := k.anti p.2 q.2
  by_cases h3 : c p.1 q.1 = 0
  ·rw [if_pos h3, if_pos (by omega), h2]
  ·rw [if_neg h3, if_neg (by omega), h1]
 trans p q r := by
  unfold thenC
  intro h1 h2
  by_cases h3 : c p.1 q.1 = 0
  ·rw [if_pos h3] at h1
   have h4 := (h.eqv _ _).1 h3
   rw [h4]
   by_cases h5 : c q.1 r.1 = 0
   ·rw [if_pos h5] at h2 ⊢
    exact k.trans _ _ _ h1 h2
   ·rw [if_neg h5] at h2 ⊢
    exact h2
  ·rw [if_neg h3] at h1
   by_cases h5 : c q.1 r.1 = 0
   ·have h4 := (h.eqv _ _).1 h5
    rw [← h4, if_neg h3]
    exact h1
   ·rw [if_neg h5] at h2
    have h6 := h.lt_trans (show c p.1 q.1 < 0 by omega) h2
    rw [if_neg (by omega)]
    omega
end
def cmpI (a b : Int) : Int := if a < b then -1 else if b < a then 1 else 0
theorem cmpI_lin : LinC cmpI where
 val a b := by unfold cmpI; split <;> (try split) <;> omega
 eqv a b := by unfold cmpI; split <;> (try split) <;> omega
 anti a b := by unfold cmpI; split <;> (try split) <;> (try split) <;> omega
 trans a b d := by unfold cmpI; split <;> split <;> (try split) <;> (try split) <;> (try split) <;> omega
theorem less_irr (a : List UInt8) : Op.bytesLess a a = false := by
 induction a with
 | nil => rfl
 | cons x r ih => simp [Op.bytesLess, ih]
theorem less_anti (a b : List UInt8) : Op.bytesLess a b = true → Op.bytesLess b a = false := by
 induction a generalizing b with
 | nil => intro _; cases b <;> rfl
 | cons x r ih =>
  cases b with
  | nil => intro h; cases h
  | cons y s =>
   intro h
   simp only [Op.bytesLess, Bool.or_eq_true, Bool.and_eq_true, decide_eq_true_eq, beq_iff_eq] at h
   simp only [Op.bytesLess, Bool.or_eq_false_iff, Bool.and_eq_false_iff, decide_eq_false_iff_not, beq_eq_false_iff_ne]
   rcases h with h | ⟨rfl, h⟩
   ·exact ⟨fun h2 => absurd (UInt8.lt_trans h h2) (UInt8.lt_irrefl _), .inl (fun e => by subst e; exact absurd h (UInt8.lt_irrefl _))⟩
   ·exact ⟨UInt8.lt_irrefl _, .inr (ih s h)⟩
theorem less_total (a b : List UInt8) : Op.bytesLess a b = false → Op.bytesLess b a = false → a = b := by
 induction a generalizing b with
 | nil => cases b with
  | nil => intro _ _; rfl
  | cons y s => intro h; cases h
 | cons x r ih =>
  cases b with
  | nil => intro _ h; cases h
  | cons y s =>
   intro h1 h2
   simp only [Op.bytesLess, Bool.or_eq_false_iff, Bool.and_eq_false_iff, decide_eq_false_iff_not, beq_eq_false_iff_ne] at h1 h2
   have hxy : x = y := UInt8.le_antisymm (UInt8.not_lt.1 h2.1) (UInt8.not_lt.1 h1.1)
   subst hxy
   have h3 : Op.bytesLess r s = false := by rcases h1.2 with h | h; exact absurd rfl h; exact h
   have h4 : Op.bytesLess s r = false := by rcases h2.2 with h | h; exact absurd rfl h; exact h
   rw [ih s h3 h4]
theorem less_trans (a b d : List UInt8) : Op.bytesLess a b = true → Op.bytesLess b d = true → Op.bytesLess a d = true := by
 induction a generalizing b d with
 | nil => 
  intro h1 h2
  cases d with
  | nil => cases b <;> cases h2
  | cons z t => rfl
 | cons x r ih =>
  cases b with
  | nil => intro h; cases h
  | cons y s =>
   cases d with
   | nil => intro _ h; cases h
   | cons z t =>
    intro h1 h2
    simp only [Op.bytesLess, Bool.or_eq_true, Bool.and_eq_true, decide_eq_true_eq, beq_iff_eq] at h1 h2 ⊢
    rcases h1 with h1 | ⟨rfl, h1⟩
    ·rcases h2 with h2 | ⟨rfl, h2⟩
     ·exact .inl (UInt8.lt_trans h1 h2)
     ·exact .inl h1
    ·rcases h2 with h2 | ⟨rfl, h2⟩
     ·exact .inl h2
     ·exact .inr ⟨rfl, ih s t h1 h2⟩
/-- Which text is the lesser. -/
def cmpS (a b : List UInt8) : Int := if Op.bytesLess a b = true then -1 else if Op.bytesLess b a = true then 1 else 0
theorem cmpS_lin : LinC cmpS where
 val a b := by
  unfold cmpS
  split
  ·exact .inl rfl
  ·split
   ·exact .inr (.inr rfl)
   ·exact .inr (.inl rfl)
 eqv a b := by
  unfold cmpS
  constructor
  ·intro h
   split at h
   ·cases h
   ·split at h
    ·cases h
    ·exact less_total a b (by simpa using ‹¬ Op.bytesLess a b = true›) (by simpa using ‹¬ Op.bytesLess b a = true›)
  ·rintro rfl
   rw [less_irr, if_neg Bool.false_ne_true, if_neg Bool.false_ne_true]
 anti a b := by
  unfold cmpS
  cases h1 : Op.bytesLess a b with
  | true => rw [less_anti a b h1]; rfl
  | false =>
   cases h2 : Op.bytesLess b a with
   | true => rfl
   | false => rfl
 trans a b d := by
  unfold cmpS
  cases h1 : Op.bytesLess a b with
  | true =>
   cases h2 : Op.bytesLess b d with
   | true => rw [less_trans a b d h1 h2, if_pos rfl, if_pos rfl]; exact fun h _ => h
   | false =>
    cases h3 : Op.bytesLess d b with
    | true => intro _ h; exact absurd h (by decide)
    | false =>
     have := less_total b d h2 h3
     subst this
     rw [h1, if_pos rfl]; exact fun h _ => h
  | false =>
   cases h2 : Op.bytesLess b a with
   | true => intro h; exact absurd h (by decide)
   | false =>
    have := less_total a b h1 h2
    subst this
    intro _ h
    exact h
end Go.Proofs.YtijciakkfpjjbaaGreatDoor
namespace Go.Proofs.YtijciakkfpjjbaaGreatDoor
open Go

def zeroT : ByteArray := ⟨#[48, 46, 48]⟩
/-- A number's decimal; of a text that is none 0. -/
def exactT (v : Val) : ByteArray := if v.kind = 2 then ofIntT v.num else if decB v.text = true then v.text else zeroT
/-- Where a kind stands. -/
def rankS (k : Int) : Int :=
 if k = 5 then 1 else if k = 6 then 2 else if k = 7 then 3 else if k = 9 then 4 else if k = 8 then 5 else if k = 10 then 6 else if k = 4 then 7 else if k = 1 then 8 else if k = 2 then 9 else if k = 3 then 9 else if k = 0 then 0 else 11
abbrev KeyO := Int × Int × Int × List UInt8 × List UInt8
def cmpKey : KeyO → KeyO → Int := fun p q => thenC (cmpI p.1 q.1) (thenC (cmpI p.2.1 q.2.1) (thenC (cmpI p.2.2.1 q.2.2.1) (thenC (cmpS p.2.2.2.1 q.2.2.2.1) (cmpS p.2.2.2.2 q.2.2.2.2))))
theorem cmpKey_lin : LinC cmpKey := cmpI_lin.prod (cmpI_lin.prod (cmpI_lin.prod (cmpS_lin.prod cmpS_lin)))
def keyN (v : Val) : Int := if v.kind = 2 ∨ v.kind = 3 then decN (exactT v) else if v.kind = 6 ∨ v.kind = 7 then v.num else if v.kind = 1 then (if v.truth = true then 1 else 0) else 0
def keyK (v : Val) : Int := if v.kind = 2 ∨ v.kind = 3 then v.kind else 0
def bareK (k : Int) : Bool := decide (k = 1 ∨ k = 2 ∨ k = 5 ∨ k = 6 ∨ k = 7)
def keyT (v : Val) : List UInt8 := if bareK v.kind = true then [] else v.text.data.toList
def keyX (v : Val) : List UInt8 := if bareK v.kind = true ∨ v.kind = 3 then [] else v.extra.data.toList
/-- What a value is by in an order. -/
def keyO (v : Val) : KeyO := (rankS v.kind, keyN v, keyK v, keyT v, keyX v)
/-- Which of two values stands first. -/
def ordV (a b : Val) : Int := cmpKey (keyO a) (keyO b)
theorem ordV_refl (a : Val) : ordV a a = 0 := cmpKey_lin.refl _
theorem ordV_anti (a b : Val) : ordV b a = -ordV a b := cmpKey_lin.anti _ _
theorem ordV_val (a b : Val) : ordV a b = -1 ∨ ordV a b = 0 ∨ ordV a b = 1 := cmpKey_lin.val _ _
theorem thenC_ne {x y : Int} (h : x ≠ 0) : thenC x y = x := by unfold thenC; rw [if_neg h]
theorem thenC_zero (y : Int) : thenC 0 y = y := rfl
theorem cmpI_self (a : Int) : cmpI a a = 0 := cmpI_lin.refl a
theorem cmpS_self (a : List UInt8) : cmpS a a = 0 := cmpS_lin.refl a
theorem cmpD_cmpI (s t : ByteArray) : cmpD s t = cmpI (decN s) (decN t) := rfl
theorem thenC_zr (x : Int) : thenC x 0 = x := by unfold thenC; split <;> omega
theorem ordV_rank {a b : Val} (h : rankS a.kind ≠ rankS b.kind) : ordV a b = cmpI (rankS a.kind) (rankS b.kind) := by
 show thenC (cmpI (rankS a.kind) (rankS b.kind)) _ = _
 exact thenC_ne (fun h2 => h ((cmpI_lin.eqv _ _).1 h2))
theorem ordV_same {a b : Val} (h : rankS a.kind = rankS b.kind) : ordV a b = thenC (cmpI (keyN a) (keyN b)) (thenC (cmpI (keyK a) (keyK b)) (thenC (cmpS (keyT a) (keyT b)) (cmpS (keyX a) (keyX b)))) := by
 show thenC (cmpI (rankS a.kind) (rankS b.kind)) _ = _
 rw [h, cmpI_self]
 rfl
theorem rank_nine {k : Int} : rankS k = 9 ↔ k = 2 ∨ k = 3 := by
 unfold rankS
 constructor
 ·intro h
  repeat' split at h
  all_goals omega
 ·intro h
  repeat' split
  all_goals omega
def kindR (r : Int) : Int := if r = 1 then 5 else if r = 2 then 6 else if r = 3 then 7 else if r = 4 then 9 else if r = 5 then 8 else if r = 6 then 10 else if r = 7 then 4 else if r = 8 then 1 else 0
theorem rank_inv (k : Int) : (rankS k = 9 ∧ (k = 2 ∨ k = 3)) ∨ rankS k = 11 ∨ (rankS k ≠ 9 ∧ rankS k ≠ 11 ∧ k = kindR (rankS k)) := by
 by_cases h5 : k = 5
 ·subst h5; right; right; decide
 by_cases h6 : k = 6
 ·subst h6; right; right; decide
 by_cases h7 : k = 7
 ·subst h7; right; right; decide
 by_cases h9 : k = 9
 ·subst h9; right; right; decide
 by_cases h8 : k = 8
 ·subst h8; right; right; decide
 by_cases h10 : k = 10
 ·subst h10; right; right; decide
 by_cases h4 : k = 4
 ·subst h4; right; right; decide
 by_cases h1 : k = 1
 ·subst h1; right; right; decide
 by_cases h2 : k = 2
 ·subst h2; left; decide
 by_cases h3 : k = 3
 ·subst h3; left; decide
 by_cases h0 : k = 0
 ·subst h0; right; right; decide
 right; left
 unfold rankS
 rw [if_neg h5, if_neg h6, if_neg h7, if_neg h9, if_neg h8, if_neg h10, if_neg h4, if_neg h1, if_neg h2, if_neg h3, if_neg h0]
theorem rank_same {j k : Int} (h : rankS j = rankS k) : j = k ∨ ((j = 2 ∨ j = 3) ∧ (k = 2 ∨ k = 3)) ∨ (rankS j = 11 ∧ rankS k = 11) := by
 rcases rank_inv j with h1 | h1 | h1
 ·rcases rank_inv k with h2 | h2 | h2
  ·exact .inr (.inl ⟨h1.2, h2.2⟩)
  ·omega
  ·exact absurd (h ▸ h1.1) h2.1
 ·exact .inr (.inr ⟨h1, h ▸ h1⟩)
 ·rcases rank_inv k with h2 | h2 | h2
  ·exact absurd (h.trans h2.1) h1.1
  ·exact absurd (h.trans h2) h1.2.1
  ·left
   rw [h1.2.2, h2.2.2, h]
/-- Numbers. -/
theorem ordV_num {a b : Val} (ha : a.kind = 2 ∨ a.kind = 3) (hb : b.kind = 2 ∨ b.kind = 3) :
    ordV a b = thenC (cmpD (exactT a) (exactT b)) (thenC (cmpI a.kind b.kind) (if a.kind = 3 then cmpS a.text.data.toList b.text.data.toList else 0)) := by
 rw [ordV_same ((rank_nine.2 ha).trans (rank_nine.2 hb).symm), cmpD_cmpI]
 have e1 : keyN a = decN (exactT a) := by unfold keyN; rw [if_pos ha]
 have e2 : keyN b = decN (exactT b) := by unfold keyN; rw [if_pos hb]
 have e3 : keyK a = a.kind := by unfold keyK; rw [if_pos ha]
 have e4 : keyK b = b.kind := by unfold keyK; rw [if_pos hb]
 rw [e1, e2, e3, e4]
 congr 1
 by_cases hk : a.kind = b.kind
 ·rw [hk, cmpI_self, thenC_zero, thenC_zero]
  unfold keyT keyX bareK
  rw [hk]
  rcases hb with hb | hb
  ·rw [hb]
   simp only [Int.reduceEq, decide_true, true_or, or_true, if_true, if_false]
   rw [cmpS_self]
   rfl
  ·rw [hb]
   have e : decide ((3 : Int) = 1 ∨ (3 : Int) = 2 ∨ (3 : Int) = 5 ∨ (3 : Int) = 6 ∨ (3 : Int) = 7) = false := by decide
   rw [e, if_neg Bool.false_ne_true, if_neg Bool.false_ne_true, if_pos rfl, if_pos (.inr rfl), if_pos (.inr rfl), cmpS_self, thenC_zr]
 ·rw [thenC_ne (fun h => hk ((cmpI_lin.eqv _ _).1 h)), thenC_ne (fun h => hk ((cmpI_lin.eqv _ _).1 h))]
/-- Nodes, edges. -/
theorem ordV_thing {a b : Val} (ha : a.kind = 6 ∨ a.kind = 7) (hb : b.kind = a.kind) : ordV a b = cmpI a.num b.num := by
 rw [ordV_same (by rw [hb])]
 have hb' : b.kind = 6 ∨ b.kind = 7 := by rw [hb]; exact ha
 have e1 : keyN a = a.num := by unfold keyN; rw [if_neg (by omega), if_pos ha]
 have e2 : keyN b = b.num := by unfold keyN; rw [if_neg (by omega), if_pos hb']
 have e3 : keyK a = 0 := by unfold keyK; rw [if_neg (by omega)]
 have e4 : keyK b = 0 := by unfold keyK; rw [if_neg (by omega)]
 have e5 : ∀ k : Int, k = 6 ∨ k = 7 → bareK k = true := fun k hk => by unfold bareK; exact decide_eq_true (by omega)
 have e6 : keyT a = [] := by unfold keyT; rw [if_pos (e5 _ ha)]
 have e7 : keyT b = [] := by unfold keyT; rw [if_pos (e5 _ hb')]
 have e8 : keyX a = [] := by unfold keyX; rw [if_pos (.inl (e5 _ ha))]
 have e9 : keyX b = [] := by unfold keyX; rw [if_pos (.inl (e5 _ hb'))]
 rw [e1, e2, e3, e4, e6, e7, e8, e9, cmpI_self, cmpS_self, thenC_zero, thenC_zero, thenC_zr]
/-- Truth values. -/
theorem ordV_bool {a b : Val} (ha : a.kind = 1) (hb : b.kind = 1) : ordV a b = cmpI (if a.truth = true then 1 else 0) (if b.truth = true then 1 else 0) := by
 rw [ordV_same (by rw [ha, hb])]
 have e1 : keyN a = if a.truth = true then 1 else 0 := by unfold keyN; rw [if_neg (by omega), if_neg (by omega), if_pos ha]
 have e2 : keyN b = if b.truth = true then 1 else 0 := by unfold keyN; rw [if_neg (by omega), if_neg (by omega), if_pos hb]
 have e3 : keyK a = 0 := by unfold keyK; rw [if_neg (by omega)]
 have e4 : keyK b = 0 := by unfold keyK; rw [if_neg (by omega)]
 have e5 : bareK 1 = true := by decide
 have e6 : keyT a = [] := by unfold keyT; rw [ha, if_pos e5]
 have e7 : keyT b = [] := by unfold keyT; rw [hb, if_pos e5]
 have e8 : keyX a = [] := by unfold keyX; rw [ha, if_pos (.inl e5)]
 have e9 : keyX b = [] := by unfold keyX; rw [hb, if_pos (.inl e5)]
 rw [e1, e2, e3, e4, e6, e7, e8, e9, cmpI_self, cmpS_self, thenC_zero, thenC_zero, thenC_zr]
/-- The others. -/
theorem ordV_text {a b : Val} (h : rankS a.kind = rankS b.kind) (ha : bareK a.kind = false) (ha3 : a.kind ≠ 3) : ordV a b = thenC (cmpS a.text.data.toList b.text.data.toList) (cmpS a.extra.data.toList b.extra.data.toList) := by
 have e5 : ∀ k : Int, bareK k = false → k ≠ 1 ∧ k ≠ 2 ∧ k ≠ 5 ∧ k ≠ 6 ∧ k ≠ 7 := fun k hk => by
  unfold bareK at hk
  have := of_decide_eq_false hk
  omega
 have ka := e5 _ ha
 have hb : bareK b.kind = false ∧ b.kind ≠ 3 := by
  rcases rank_same h with e | e | e
  ·rw [← e]; exact ⟨ha, ha3⟩
  ·omega
  ·have h2 := e.2
   have : b.kind ≠ 1 ∧ b.kind ≠ 2 ∧ b.kind ≠ 5 ∧ b.kind ≠ 6 ∧ b.kind ≠ 7 ∧ b.kind ≠ 3 := by
    refine ⟨?_, ?_, ?_, ?_, ?_, ?_⟩ <;> (intro e3; exfalso; rw [e3] at h2; revert h2; decide)
   refine ⟨?_, this.2.2.2.2.2⟩
   unfold bareK
   exact decide_eq_false (by omega)
 have kb := e5 _ hb.1
 rw [ordV_same h]
 have e1 : keyN a = 0 := by unfold keyN; rw [if_neg (by omega), if_neg (by omega), if_neg (by omega)]
 have e2 : keyN b = 0 := by unfold keyN; rw [if_neg (by omega), if_neg (by omega), if_neg (by omega)]
 have e3 : keyK a = 0 := by unfold keyK; rw [if_neg (by omega)]
 have e4 : keyK b = 0 := by unfold keyK; rw [if_neg (by omega)]
 have e6 : keyT a = a.text.data.toList := by unfold keyT; rw [ha, if_neg Bool.false_ne_true]
 have e7 : keyT b = b.text.data.toList := by unfold keyT; rw [hb.1, if_neg Bool.false_ne_true]
 have e8 : keyX a = a.extra.data.toList := by unfold keyX; rw [ha, if_neg (by simpa using ha3)]
 have e9 : keyX b = b.extra.data.toList := by unfold keyX; rw [hb.1, if_neg (by simpa using hb.2)]
 rw [e1, e2, e3, e4, e6, e7, e8, e9, cmpI_self, thenC_zero, thenC_zero]
/-- What may stand in a triple. -/
def ScalV (v : Val) : Prop := mayV v 0 = true ∧ (v.kind = 1 ∨ v.kind = 2 ∨ v.kind = 3 ∨ v.kind = 4 ∨ v.kind = 8 ∨ v.kind = 9 ∨ v.kind = 10) ∧ -9223372036854775808 ≤ v.num ∧ v.num ≤ 9223372036854775807
theorem bytes_eq {s t : ByteArray} (h : s.data.toList = t.data.toList) : s = t := ByteArray.ext (Array.toList_inj.1 h)
theorem cmpB_eq {k : Int} {b : Bool} {n : Int} {t x : ByteArray} {l : List Val} {b' : Bool} {n' : Int} {t' x' : ByteArray} (h : cmpB k b n t x l b' n' t' x' = true) (hk : k ≠ 5) : b = b' ∧ n = n' ∧ t = t' ∧ x = x' ∧ l = [] := by
 unfold cmpB at h
 simp only [Bool.and_eq_true, beq_iff_eq, decide_eq_true_eq, Bool.or_eq_true, List.length_eq_zero_iff] at h
 refine ⟨h.1, h.2.1, h.2.2.1, h.2.2.2.1, ?_⟩
 rcases h.2.2.2.2 with h | h
 ·exact h
 ·exact absurd h hk
/-- A value of a triple has a form by its kind. -/
theorem scal_form {v : Val} (h : ScalV v) :
    (v.kind = 1 ∧ v = .mk 1 v.truth 0 ⟨#[]⟩ ⟨#[]⟩ []) ∨ (v.kind = 2 ∧ v = .mk 2 false v.num ⟨#[]⟩ ⟨#[]⟩ []) ∨ (v.kind = 3 ∧ decB v.text = true ∧ v = .mk 3 false 0 v.text ⟨#[]⟩ []) ∨
    ((v.kind = 4 ∨ v.kind = 8 ∨ v.kind = 9 ∨ v.kind = 10) ∧ v = .mk v.kind false 0 v.text v.extra []) := by
 obtain ⟨h1, h2, _, _⟩ := h
 cases v with
 | mk k b n t x l =>
 unfold mayV at h1
 simp only [Val.kind, Val.truth, Val.num, Val.text, Val.extra] at h2 ⊢
 rcases h2 with rfl | rfl | rfl | rfl | rfl | rfl | rfl
 ·simp only [Int.reduceEq, if_true, if_false] at h1
  obtain ⟨_, rfl, rfl, rfl, rfl⟩ := cmpB_eq h1 (by decide)
  exact .inl ⟨rfl, rfl⟩
 ·simp only [Int.reduceEq, if_true, if_false] at h1
  obtain ⟨rfl, _, rfl, rfl, rfl⟩ := cmpB_eq h1 (by decide)
  exact .inr (.inl ⟨rfl, rfl⟩)
 ·simp only [Int.reduceEq, if_true, if_false, Bool.and_eq_true] at h1
  obtain ⟨rfl, rfl, _, rfl, rfl⟩ := cmpB_eq h1.2 (by decide)
  exact .inr (.inr (.inl ⟨rfl, h1.1, rfl⟩))
 ·simp only [Int.reduceEq, if_true, if_false, Bool.and_eq_true] at h1
  obtain ⟨rfl, rfl, _, rfl, rfl⟩ := cmpB_eq h1.2 (by decide)
  exact .inr (.inr (.inr ⟨.inl rfl, rfl⟩))
 ·simp only [Int.reduceEq, if_true, if_false, Bool.and_eq_true] at h1
  obtain ⟨rfl, rfl, _, rfl, rfl⟩ := cmpB_eq h1.2 (by decide)
  exact .inr (.inr (.inr ⟨.inr (.inl rfl), rfl⟩))
 ·simp only [Int.reduceEq, if_true, if_false, Bool.and_eq_true] at h1
  obtain ⟨rfl, rfl, _, rfl, rfl⟩ := cmpB_eq h1.2 (by decide)
  exact .inr (.inr (.inr ⟨.inr (.inr (.inl rfl)), rfl⟩))
 ·simp only [Int.reduceEq, if_true, if_false, Bool.and_eq_true] at h1
  obtain ⟨rfl, rfl, _, _, rfl⟩ := cmpB_eq h1.2.2 (by decide)
  exact .inr (.inr (.inr ⟨.inr (.inr (.inr rfl)), rfl⟩))
/-- Values of triples that stand alike are the same. -/
theorem ordV_eq {a b : Val} (ha : ScalV a) (hb : ScalV b) (h : ordV a b = 0) : a = b := by
 have hk := (cmpKey_lin.eqv _ _).1 h
 unfold keyO at hk
 simp only [Prod.mk.injEq] at hk
 obtain ⟨hr, hn, hkk, ht, hx⟩ := hk
 have hkind : a.kind = b.kind := by
  rcases rank_same hr with e | e | e
  ·exact e
  ·unfold keyK at hkk
   rw [if_pos e.1, if_pos e.2] at hkk
   exact hkk
  ·have h2 := e.1
   rcases ha.2.1 with e3 | e3 | e3 | e3 | e3 | e3 | e3 <;> (exfalso; rw [e3] at h2; revert h2; decide)
 rcases scal_form ha with ⟨k1, e1⟩ | ⟨k1, e1⟩ | ⟨k1, d1, e1⟩ | ⟨k1, e1⟩
 ·rcases scal_form hb with ⟨k2, e2⟩ | ⟨k2, e2⟩ | ⟨k2, d2, e2⟩ | ⟨k2, e2⟩
  ·unfold keyN at hn
   rw [k1, k2] at hn
   simp only [Int.reduceEq, or_self, if_true, if_false] at hn
   have : a.truth = b.truth := by
    cases h1 : a.truth <;> cases h2 : b.truth <;> rw [h1, h2] at hn <;> first | rfl | (exfalso; revert hn; decide)
   rw [e1, e2, this]
  all_goals omega
 ·rcases scal_form hb with ⟨k2, e2⟩ | ⟨k2, e2⟩ | ⟨k2, d2, e2⟩ | ⟨k2, e2⟩
  ·omega
  ·unfold keyN at hn
   rw [if_pos (.inl k1), if_pos (.inl k2)] at hn
   unfold exactT at hn
   rw [if_pos k1, if_pos k2, decN_ofInt ha.2.2.1 ha.2.2.2, decN_ofInt hb.2.2.1 hb.2.2.2] at hn
   have : a.num = b.num := by omega
   rw [e1, e2, this]
  all_goals omega
 ·rcases scal_form hb with ⟨k2, e2⟩ | ⟨k2, e2⟩ | ⟨k2, d2, e2⟩ | ⟨k2, e2⟩
  ·omega
  ·omega
  ·unfold keyT at ht
   rw [k1, k2] at ht
   have : a.text = b.text := bytes_eq ht
   rw [e1, e2, this]
  ·omega
 ·rcases scal_form hb with ⟨k2, e2⟩ | ⟨k2, e2⟩ | ⟨k2, d2, e2⟩ | ⟨k2, e2⟩
  ·omega
  ·omega
  ·omega
  ·have hbare : ∀ k : Int, (k = 4 ∨ k = 8 ∨ k = 9 ∨ k = 10) → bareK k = false := fun k hk => by unfold bareK; exact decide_eq_false (by omega)
   unfold keyT at ht
   unfold keyX at hx
   rw [hbare _ k1, hbare _ k2, if_neg Bool.false_ne_true, if_neg Bool.false_ne_true] at ht
   rw [hbare _ k1, hbare _ k2, if_neg (by simp; omega), if_neg (by simp; omega)] at hx
   rw [e1, e2, hkind, bytes_eq ht, bytes_eq hx]
end Go.Proofs.YtijciakkfpjjbaaGreatDoor
namespace Go.Proofs.YtijciakkfpjjbaaGreatDoor
open Go Go.RowKit

theorem ret_i {a b : Int} (h : a = b) : Ending.returned (.int .i64 a) = .returned (.int .i64 b) := by rw [h]
set_option maxRecDepth 100000 in
set_option maxHeartbeats 2000000 in
theorem rank2_any (k : Int) (w : World) : Calls Tryz.prog 53 #[.int .i64 1, .int .i64 k] w fun e w' => e = .returned (.int .i64 (rankS k)) ∧ w' = w := by
 by_cases h5 : k = 5
 ·subst h5
  go_enter Tryz.func53, Tryz.ntmps53
  go_wp2_with fail
  go_ret
  exact ⟨rfl, rfl⟩
 by_cases h6 : k = 6
 ·subst h6
  go_enter Tryz.func53, Tryz.ntmps53
  go_wp2_with fail
  go_ret
  exact ⟨rfl, rfl⟩
 by_cases h7 : k = 7
 ·subst h7
  go_enter Tryz.func53, Tryz.ntmps53
  go_wp2_with fail
  go_ret
  exact ⟨rfl, rfl⟩
 by_cases h9 : k = 9
 ·subst h9
  go_enter Tryz.func53, Tryz.ntmps53
  go_wp2_with fail
  go_ret
  exact ⟨rfl, rfl⟩
 by_cases h8 : k = 8
 ·subst h8
  go_enter Tryz.func53, Tryz.ntmps53
  go_wp2_with fail
  go_ret
  exact ⟨rfl, rfl⟩
 by_cases h10 : k = 10
 ·subst h10
  go_enter Tryz.func53, Tryz.ntmps53
  go_wp2_with fail
  go_ret
  exact ⟨rfl, rfl⟩
 by_cases h4 : k = 4
 ·subst h4
  go_enter Tryz.func53, Tryz.ntmps53
  go_wp2_with fail
  go_ret
  exact ⟨rfl, rfl⟩
 by_cases h1 : k = 1
 ·subst h1
  go_enter Tryz.func53, Tryz.ntmps53
  go_wp2_with fail
  go_ret
  exact ⟨rfl, rfl⟩
 by_cases h2 : k = 2
 ·subst h2
  go_enter Tryz.func53, Tryz.ntmps53
  go_wp2_with fail
  go_ret
  exact ⟨rfl, rfl⟩
 by_cases h3 : k = 3
 ·subst h3
  go_enter Tryz.func53, Tryz.ntmps53
  go_wp2_with fail
  go_ret
  exact ⟨rfl, rfl⟩
 by_cases h0 : k = 0
 ·subst h0
  go_enter Tryz.func53, Tryz.ntmps53
  go_wp2_with fail
  go_ret
  exact ⟨rfl, rfl⟩
 have hr := Lib.hid (show (11 : Int) = rankS k from by unfold rankS; rw [if_neg h5, if_neg h6, if_neg h7, if_neg h9, if_neg h8, if_neg h10, if_neg h4, if_neg h1, if_neg h2, if_neg h3, if_neg h0])
 have e5 : (k == 5) = false := by simpa using h5
 have e6 : (k == 6) = false := by simpa using h6
 have e7 : (k == 7) = false := by simpa using h7
 have e9 : (k == 9) = false := by simpa using h9
 have e8 : (k == 8) = false := by simpa using h8
 have e10 : (k == 10) = false := by simpa using h10
 have e4 : (k == 4) = false := by simpa using h4
 have e1 : (k == 1) = false := by simpa using h1
 have e2 : (k == 2) = false := by simpa using h2
 have e3 : (k == 3) = false := by simpa using h3
 have e0 : (k == 0) = false := by simpa using h0
 clear h5 h6 h7 h9 h8 h10 h4 h1 h2 h3 h0
 go_enter Tryz.func53, Tryz.ntmps53
 go_wp2_with fail
 go_ret
 exact ⟨ret_i hr.out, rfl⟩
def signV (a b : Bool) : Int := if a = true then -1 else if b = true then 1 else 0
set_option maxRecDepth 100000 in
theorem sign_any (a b : Bool) (w : World) : Calls Tryz.prog 54 #[.bool a, .bool b] w fun e w' => e = .returned (.int .i64 (signV a b)) ∧ w' = w := by
 cases a <;> cases b
 all_goals
  go_enter Tryz.func54, Tryz.ntmps54
  go_wp2_with fail
  go_ret
  exact ⟨rfl, rfl⟩
def DecIs (v : Val) (w : World) (e : Ending) (w' : World) : Prop := e = .returned (.string (exactT v)) ∧ Below w.heap.size w w'
set_option maxRecDepth 100000 in
set_option maxHeartbeats 2000000 in
theorem dec2_any (v : Val) (s : Value) (h0 : -9223372036854775808 ≤ v.num) (h1 : v.num ≤ 9223372036854775807) (ht : v.text.size ≤ 4000000000000) (w : World) :
    Calls Tryz.prog 56 #[.agg (cellsV v s)] w (DecIs v w) := by
 have hof := Lib.hid (fun W : World => refOfInt_any v.num h0 h1 W)
 have hck := Lib.hid (fun W : World => refDec_any v.text ht W)
 have hex := Lib.hid (show exactT v = if v.kind = 2 then ofIntT v.num else if decB v.text = true then v.text else zeroT from rfl)
 obtain ⟨x, Hx⟩ := name_itV (exactT v)
 have HE := Lib.hid (show ∀ w', Below w.heap.size w w' → DecIs v w (.returned (.string x)) w' from fun w' hb => ⟨by rw [Hx.out], hb⟩)
 obtain ⟨o, Ho⟩ := name_itV (ofIntT v.num)
 rw [Hx.out, Ho.out] at hex
 have HX2 := Lib.hid (fun h : v.kind = 2 => (show x = o from by rw [hex.out, if_pos h]))
 have HXT := Lib.hid (fun (h : v.kind ≠ 2) (hd : decB v.text = true) => (show x = v.text from by rw [hex.out, if_neg h, if_pos hd]))
 have HXF := Lib.hid (fun (h : v.kind ≠ 2) (hd : decB v.text = false) => (show x = ⟨#[48, 46, 48]⟩ from by rw [hex.out, if_neg h, if_neg (by rw [hd]; exact Bool.false_ne_true)]; rfl))
 clear hex
 have hof2 := Lib.hid (fun W : World => (show Calls Tryz.prog 82 #[.int .i64 v.num] W (fun e w' => e = .returned (.string o) ∧ Below W.heap.size W w') from by rw [← Ho.out]; exact hof.out W))
 clear hof Hx Ho
 cases v with
 | mk k b n t x' l =>
 unfold cellsV
 simp only [Val.kind, Val.truth, Val.num, Val.text, Val.extra] at hof2 hck HX2 HXT HXF ⊢
 clear h0 h1 ht
 go_enter Tryz.func56, Tryz.ntmps56
 by_cases hk : k = 2
 ·have hx := Lib.hid (HX2.out hk)
  subst hk
  go_wp2_with fail
  refine (hof2.out _).mono ?_
  rintro e w1 ⟨rfl, hb⟩
  have HB := Lib.hid (((Below.refl w.heap.size w).alloc (Nat.le_refl _) (.cells #[.int .i64 2, .bool b, .int .i64 n, .string t, .string x', s] 34)).trans (hb.mono (by simp)))
  clear hb
  go_wp2_with fail
  go_ret
  have := HE.out _ HB.out
  rw [hx.out] at this
  exact this
 ·have e2 : (k == 2) = false := by simpa using hk
  have hx1 := Lib.hid (HXT.out hk)
  have hx0 := Lib.hid (HXF.out hk)
  clear hk HX2 HXT HXF
  go_wp2_with fail
  refine (hck.out _).mono ?_
  rintro e w1 ⟨rfl, hb⟩
  have c3 : w1.cell? ⟨w.heap.size, 3, none⟩ = some (.string t) := (hb.cell (p := ⟨w.heap.size, 3, none⟩) (by simp)).trans (Lib.cell_of_heap (heap_alloc_new w _) 3)
  have HB := Lib.hid (((Below.refl w.heap.size w).alloc (Nat.le_refl _) (.cells #[.int .i64 k, .bool b, .int .i64 n, .string t, .string x', s] 34)).trans (hb.mono (by simp)))
  clear hb
  obtain ⟨bd, Hbd⟩ := name_itV (decB t)
  rw [Hbd.out]
  cases bd with
  | true =>
   have hd := Hbd.out
   have hx2 := Lib.hid (show x = t from hx1.out hd)
   clear hd
   go_wp2_with fail
   go_ret
   have := HE.out _ HB.out
   rw [hx2.out] at this
   exact this
  | false =>
   have hd := Hbd.out
   have hx2 := Lib.hid (show x = ⟨#[48, 46, 48]⟩ from hx0.out hd)
   clear hd
   go_wp2_with fail
   go_ret
   have := HE.out _ HB.out
   rw [hx2.out] at this
   exact this
end Go.Proofs.YtijciakkfpjjbaaGreatDoor
namespace Go.Proofs.YtijciakkfpjjbaaGreatDoor
open Go Go.RowKit

def OrdIs (a b : Val) (w : World) (e : Ending) (w' : World) : Prop := e = .returned (.int .i64 (ordV a b)) ∧ Below w.heap.size w w'
theorem signV_lt (x y : Int) (h : x ≠ y) : signV (decide (x < y)) true = cmpI x y := by
 unfold signV cmpI
 by_cases h1 : x < y
 ·rw [decide_eq_true h1, if_pos rfl, if_pos h1]
 ·rw [decide_eq_false h1, if_neg Bool.false_ne_true, if_pos rfl, if_neg h1, if_pos (by omega)]
theorem signV_int (x y : Int) : signV (decide (x < y)) (decide (y < x)) = cmpI x y := by
 unfold signV cmpI
 by_cases h1 : x < y
 ·rw [decide_eq_true h1, if_pos rfl, if_pos h1]
 ·rw [decide_eq_false h1, if_neg Bool.false_ne_true, if_neg h1]
  by_cases h2 : y < x
  ·rw [decide_eq_true h2, if_pos rfl, if_pos h2]
  ·rw [decide_eq_false h2, if_neg Bool.false_ne_true, if_neg h2]
set_option maxRecDepth 100000 in
set_option maxHeartbeats 8000000 in
/-- Ranks apart; nodes, edges. -/
theorem refOrder_rank (a b : Val) (sa sb : Value) (w : World) (hne : rankS a.kind ≠ rankS b.kind) :
    Calls Tryz.prog 15 #[.int .i64 1, .agg (cellsV a sa), .agg (cellsV b sb)] w (OrdIs a b w) := by
 have hr1 := Lib.hid (fun W : World => rank2_any a.kind W)
 have hr2 := Lib.hid (fun W : World => rank2_any b.kind W)
 have hv := Lib.hid (show ordV a b = signV (decide (rankS a.kind < rankS b.kind)) true from by rw [ordV_rank hne, signV_lt _ _ hne])
 obtain ⟨v, Hv⟩ := name_itV (ordV a b)
 have HE := Lib.hid (show ∀ w', Below w.heap.size w w' → OrdIs a b w (.returned (.int .i64 v)) w' from fun w' hb => ⟨by rw [Hv.out], hb⟩)
 obtain ⟨r1, H1⟩ := name_itV (rankS a.kind)
 obtain ⟨r2, H2⟩ := name_itV (rankS b.kind)
 rw [Hv.out, H1.out, H2.out] at hv
 rw [H1.out] at hr1 hne
 rw [H2.out] at hr2 hne
 clear Hv H1 H2
 have hsg := Lib.hid (fun W : World => (show Calls Tryz.prog 54 #[.bool (decide (r1 < r2)), .bool true] W (fun e w' => e = .returned (.int .i64 v) ∧ w' = W) from by rw [hv.out]; exact sign_any _ _ W))
 have hn : (r1 != r2) = true := by simpa using hne
 clear hne hv
 cases a with
 | mk k1 b1 n1 t1 x1 l1 =>
 cases b with
 | mk k2 b2 n2 t2 x2 l2 =>
 unfold cellsV
 simp only [Val.kind, Val.truth, Val.num, Val.text, Val.extra] at hr1 hr2 ⊢
 go_enter Tryz.func15, Tryz.ntmps15
 obtain ⟨z, Hz⟩ := name_itV w.heap.size
 obtain ⟨w1, HW1⟩ := name_itV ((w.alloc (.cells #[.int .i64 k1, .bool b1, .int .i64 n1, .string t1, .string x1, sa] 34)).alloc (.cells #[.int .i64 k2, .bool b2, .int .i64 n2, .string t2, .string x2, sb] 34))
 have HB := Lib.hid (show Below w.heap.size w w1 from by rw [← HW1.out]; exact two_new w _ _)
 have HX := Lib.hid (show w1.heap[z]? = some (.cells #[.int .i64 k1, .bool b1, .int .i64 n1, .string t1, .string x1, sa] 34 (0, 0)) from by rw [← HW1.out, ← Hz.out]; exact heap_alloc2_old w _ _)
 have HY := Lib.hid (show w1.heap[z + 1]? = some (.cells #[.int .i64 k2, .bool b2, .int .i64 n2, .string t2, .string x2, sb] 34 (0, 0)) from by rw [← HW1.out, ← Hz.out]; exact heap_alloc2_new w _ _)
 have p0 : w1.cell? ⟨z, 0, none⟩ = some (.int .i64 k1) := Lib.cell_of_heap HX.out 0
 have q0 : w1.cell? ⟨z + 1, 0, none⟩ = some (.int .i64 k2) := Lib.cell_of_heap HY.out 0
 go_upto_region 1 with fail
 rw [HW1.out, Hz.out]
 clear HW1
 go_wp2_with fail
 refine (hr1.out w1).mono ?_
 rintro e w2 ⟨rfl, rfl⟩
 go_wp2_with fail
 refine (hr2.out _).mono ?_
 rintro e w3 ⟨rfl, rfl⟩
 go_wp2_with fail
 refine (hsg.out _).mono ?_
 rintro e w4 ⟨rfl, rfl⟩
 go_wp2_with fail
 go_ret
 exact HE.out _ HB.out
set_option maxRecDepth 100000 in
set_option maxHeartbeats 8000000 in
/-- Nodes; edges. -/
theorem refOrder_thing6 (a b : Val) (sa sb : Value) (w : World) (ha : a.kind = 6) (hb : b.kind = 6) :
    Calls Tryz.prog 15 #[.int .i64 1, .agg (cellsV a sa), .agg (cellsV b sb)] w (OrdIs a b w) := by
 have hr1 := Lib.hid (fun W : World => (show Calls Tryz.prog 53 #[.int .i64 1, .int .i64 6] W (fun e w' => e = .returned (.int .i64 2) ∧ w' = W) from rank2_any 6 W))
 have hv := Lib.hid (show ordV a b = signV (decide (a.num < b.num)) (decide (b.num < a.num)) from by rw [ordV_thing (.inl ha) (hb.trans ha.symm), signV_int])
 obtain ⟨v, Hv⟩ := name_itV (ordV a b)
 have HE := Lib.hid (show ∀ w', Below w.heap.size w w' → OrdIs a b w (.returned (.int .i64 v)) w' from fun w' hb => ⟨by rw [Hv.out], hb⟩)
 rw [Hv.out] at hv
 have hsg := Lib.hid (fun W : World => (show Calls Tryz.prog 54 #[.bool (decide (a.num < b.num)), .bool (decide (b.num < a.num))] W (fun e w' => e = .returned (.int .i64 v) ∧ w' = W) from by rw [hv.out]; exact sign_any _ _ W))
 clear Hv hv
 cases a with
 | mk k1 b1 n1 t1 x1 l1 =>
 cases b with
 | mk k2 b2 n2 t2 x2 l2 =>
 simp only [Val.kind] at ha hb
 subst ha
 subst hb
 unfold cellsV
 simp only [Val.kind, Val.truth, Val.num, Val.text, Val.extra] at hsg ⊢
 obtain ⟨z, Hz⟩ := name_itV w.heap.size
 obtain ⟨w1, HW1⟩ := name_itV ((w.alloc (.cells #[.int .i64 6, .bool b1, .int .i64 n1, .string t1, .string x1, sa] 34)).alloc (.cells #[.int .i64 6, .bool b2, .int .i64 n2, .string t2, .string x2, sb] 34))
 have HB := Lib.hid (show Below w.heap.size w w1 from by rw [← HW1.out]; exact two_new w _ _)
 have HX := Lib.hid (show w1.heap[z]? = some (.cells #[.int .i64 6, .bool b1, .int .i64 n1, .string t1, .string x1, sa] 34 (0, 0)) from by rw [← HW1.out, ← Hz.out]; exact heap_alloc2_old w _ _)
 have HY := Lib.hid (show w1.heap[z + 1]? = some (.cells #[.int .i64 6, .bool b2, .int .i64 n2, .string t2, .string x2, sb] 34 (0, 0)) from by rw [← HW1.out, ← Hz.out]; exact heap_alloc2_new w _ _)
 have p0 : w1.cell? ⟨z, 0, none⟩ = some (.int .i64 6) := Lib.cell_of_heap HX.out 0
 have q0 : w1.cell? ⟨z + 1, 0, none⟩ = some (.int .i64 6) := Lib.cell_of_heap HY.out 0
 have p2 : w1.cell? ⟨z, 2, none⟩ = some (.int .i64 n1) := Lib.cell_of_heap HX.out 2
 have q2 : w1.cell? ⟨z + 1, 2, none⟩ = some (.int .i64 n2) := Lib.cell_of_heap HY.out 2
 go_enter Tryz.func15, Tryz.ntmps15
 go_upto_region 1 with fail
 rw [HW1.out, Hz.out]
 clear HW1
 go_wp2_with fail
 refine (hr1.out w1).mono ?_
 rintro e w2 ⟨rfl, rfl⟩
 go_wp2_with fail
 refine (hr1.out _).mono ?_
 rintro e w3 ⟨rfl, rfl⟩
 go_wp2_with fail
 refine (hsg.out _).mono ?_
 rintro e w4 ⟨rfl, rfl⟩
 go_wp2_with fail
 go_ret
 exact HE.out _ HB.out
set_option maxRecDepth 100000 in
set_option maxHeartbeats 8000000 in
/-- Nodes; edges. -/
theorem refOrder_thing7 (a b : Val) (sa sb : Value) (w : World) (ha : a.kind = 7) (hb : b.kind = 7) :
    Calls Tryz.prog 15 #[.int .i64 1, .agg (cellsV a sa), .agg (cellsV b sb)] w (OrdIs a b w) := by
 have hr1 := Lib.hid (fun W : World => (show Calls Tryz.prog 53 #[.int .i64 1, .int .i64 7] W (fun e w' => e = .returned (.int .i64 3) ∧ w' = W) from rank2_any 7 W))
 have hv := Lib.hid (show ordV a b = signV (decide (a.num < b.num)) (decide (b.num < a.num)) from by rw [ordV_thing (.inr ha) (hb.trans ha.symm), signV_int])
 obtain ⟨v, Hv⟩ := name_itV (ordV a b)
 have HE := Lib.hid (show ∀ w', Below w.heap.size w w' → OrdIs a b w (.returned (.int .i64 v)) w' from fun w' hb => ⟨by rw [Hv.out], hb⟩)
 rw [Hv.out] at hv
 have hsg := Lib.hid (fun W : World => (show Calls Tryz.prog 54 #[.bool (decide (a.num < b.num)), .bool (decide (b.num < a.num))] W (fun e w' => e = .returned (.int .i64 v) ∧ w' = W) from by rw [hv.out]; exact sign_any _ _ W))
 clear Hv hv
 cases a with
 | mk k1 b1 n1 t1 x1 l1 =>
 cases b with
 | mk k2 b2 n2 t2 x2 l2 =>
 simp only [Val.kind] at ha hb
 subst ha
 subst hb
 unfold cellsV
 simp only [Val.kind, Val.truth, Val.num, Val.text, Val.extra] at hsg ⊢
 obtain ⟨z, Hz⟩ := name_itV w.heap.size
 obtain ⟨w1, HW1⟩ := name_itV ((w.alloc (.cells #[.int .i64 7, .bool b1, .int .i64 n1, .string t1, .string x1, sa] 34)).alloc (.cells #[.int .i64 7, .bool b2, .int .i64 n2, .string t2, .string x2, sb] 34))
 have HB := Lib.hid (show Below w.heap.size w w1 from by rw [← HW1.out]; exact two_new w _ _)
 have HX := Lib.hid (show w1.heap[z]? = some (.cells #[.int .i64 7, .bool b1, .int .i64 n1, .string t1, .string x1, sa] 34 (0, 0)) from by rw [← HW1.out, ← Hz.out]; exact heap_alloc2_old w _ _)
 have HY := Lib.hid (show w1.heap[z + 1]? = some (.cells #[.int .i64 7, .bool b2, .int .i64 n2, .string t2, .string x2, sb] 34 (0, 0)) from by rw [← HW1.out, ← Hz.out]; exact heap_alloc2_new w _ _)
 have p0 : w1.cell? ⟨z, 0, none⟩ = some (.int .i64 7) := Lib.cell_of_heap HX.out 0
 have q0 : w1.cell? ⟨z + 1, 0, none⟩ = some (.int .i64 7) := Lib.cell_of_heap HY.out 0
 have p2 : w1.cell? ⟨z, 2, none⟩ = some (.int .i64 n1) := Lib.cell_of_heap HX.out 2
 have q2 : w1.cell? ⟨z + 1, 2, none⟩ = some (.int .i64 n2) := Lib.cell_of_heap HY.out 2
 go_enter Tryz.func15, Tryz.ntmps15
 go_upto_region 1 with fail
 rw [HW1.out, Hz.out]
 clear HW1
 go_wp2_with fail
 refine (hr1.out w1).mono ?_
 rintro e w2 ⟨rfl, rfl⟩
 go_wp2_with fail
 refine (hr1.out _).mono ?_
 rintro e w3 ⟨rfl, rfl⟩
 go_wp2_with fail
 refine (hsg.out _).mono ?_
 rintro e w4 ⟨rfl, rfl⟩
 go_wp2_with fail
 go_ret
 exact HE.out _ HB.out
set_option maxRecDepth 100000 in
set_option maxHeartbeats 8000000 in
/-- Truth values. -/
theorem refOrder_bool (a b : Val) (sa sb : Value) (w : World) (ha : a.kind = 1) (hb : b.kind = 1) :
    Calls Tryz.prog 15 #[.int .i64 1, .agg (cellsV a sa), .agg (cellsV b sb)] w (OrdIs a b w) := by
 have hr1 := Lib.hid (fun W : World => (show Calls Tryz.prog 53 #[.int .i64 1, .int .i64 1] W (fun e w' => e = .returned (.int .i64 8) ∧ w' = W) from rank2_any 1 W))
 have hv := Lib.hid (show ordV a b = signV (!a.truth && b.truth) (a.truth && !b.truth) from by
  rw [ordV_bool ha hb]
  cases a.truth <;> cases b.truth <;> rfl)
 obtain ⟨v, Hv⟩ := name_itV (ordV a b)
 have HE := Lib.hid (show ∀ w', Below w.heap.size w w' → OrdIs a b w (.returned (.int .i64 v)) w' from fun w' hb => ⟨by rw [Hv.out], hb⟩)
 rw [Hv.out] at hv
 have hsg := Lib.hid (fun W : World => (show Calls Tryz.prog 54 #[.bool (!a.truth && b.truth), .bool (a.truth && !b.truth)] W (fun e w' => e = .returned (.int .i64 v) ∧ w' = W) from by rw [hv.out]; exact sign_any _ _ W))
 clear Hv hv
 cases a with
 | mk k1 b1 n1 t1 x1 l1 =>
 cases b with
 | mk k2 b2 n2 t2 x2 l2 =>
 simp only [Val.kind] at ha hb
 subst ha
 subst hb
 unfold cellsV
 simp only [Val.kind, Val.truth, Val.num, Val.text, Val.extra] at hsg ⊢
 obtain ⟨z, Hz⟩ := name_itV w.heap.size
 obtain ⟨w1, HW1⟩ := name_itV ((w.alloc (.cells #[.int .i64 1, .bool b1, .int .i64 n1, .string t1, .string x1, sa] 34)).alloc (.cells #[.int .i64 1, .bool b2, .int .i64 n2, .string t2, .string x2, sb] 34))
 have HB := Lib.hid (show Below w.heap.size w w1 from by rw [← HW1.out]; exact two_new w _ _)
 have HX := Lib.hid (show w1.heap[z]? = some (.cells #[.int .i64 1, .bool b1, .int .i64 n1, .string t1, .string x1, sa] 34 (0, 0)) from by rw [← HW1.out, ← Hz.out]; exact heap_alloc2_old w _ _)
 have HY := Lib.hid (show w1.heap[z + 1]? = some (.cells #[.int .i64 1, .bool b2, .int .i64 n2, .string t2, .string x2, sb] 34 (0, 0)) from by rw [← HW1.out, ← Hz.out]; exact heap_alloc2_new w _ _)
 have p0 : w1.cell? ⟨z, 0, none⟩ = some (.int .i64 1) := Lib.cell_of_heap HX.out 0
 have q0 : w1.cell? ⟨z + 1, 0, none⟩ = some (.int .i64 1) := Lib.cell_of_heap HY.out 0
 have p1 : w1.cell? ⟨z, 1, none⟩ = some (.bool b1) := Lib.cell_of_heap HX.out 1
 have q1 : w1.cell? ⟨z + 1, 1, none⟩ = some (.bool b2) := Lib.cell_of_heap HY.out 1
 clear HX HY
 go_enter Tryz.func15, Tryz.ntmps15
 go_upto_region 1 with fail
 rw [HW1.out, Hz.out]
 clear HW1
 go_wp2_with fail
 refine (hr1.out w1).mono ?_
 rintro e w2 ⟨rfl, rfl⟩
 go_wp2_with fail
 refine (hr1.out _).mono ?_
 rintro e w3 ⟨rfl, rfl⟩
 cases b1 <;> cases b2
 all_goals
  go_wp2_with fail
  refine (hsg.out _).mono ?_
  rintro e w4 ⟨rfl, rfl⟩
  go_wp2_with fail
  go_ret
  exact HE.out _ HB.out
end Go.Proofs.YtijciakkfpjjbaaGreatDoor
namespace Go.Proofs.YtijciakkfpjjbaaGreatDoor
open Go Go.RowKit

theorem rank_bare {k : Int} (h : bareK k = false) (h3 : k ≠ 3) : rankS k ≠ 9 ∧ rankS k ≠ 1 ∧ rankS k ≠ 2 ∧ rankS k ≠ 3 ∧ rankS k ≠ 8 := by
 unfold bareK at h
 have hk := of_decide_eq_false h
 rcases rank_inv k with h1 | h1 | h1
 ·omega
 ·rw [h1]; decide
 ·refine ⟨h1.1, ?_, ?_, ?_, ?_⟩ <;> (intro e; rw [e] at h1; have := h1.2.2; revert this; unfold kindR; simp; omega)
theorem sign_text (x y : ByteArray) : signV (Op.bytesLess x.toList y.toList) (!Op.bytesLess x.toList y.toList && !x.toList == y.toList) = cmpS x.data.toList y.data.toList := by
 rw [ByteArray.toList_eq, ByteArray.toList_eq]
 unfold cmpS signV
 cases h1 : Op.bytesLess x.data.toList y.data.toList with
 | true => rfl
 | false =>
  by_cases h2 : x.data.toList = y.data.toList
  ·rw [h2, less_irr]
   simp
  ·have h3 : Op.bytesLess y.data.toList x.data.toList = true := by
     cases h4 : Op.bytesLess y.data.toList x.data.toList with
     | true => rfl
     | false => exact absurd (less_total _ _ h1 h4) h2
   have h5 : (x.data.toList == y.data.toList) = false := beq_eq_false_iff_ne.2 h2
   rw [h3, h5]
   rfl
theorem ord_text2 {a b : Val} (h : rankS a.kind = rankS b.kind) (ha : bareK a.kind = false) (ha3 : a.kind ≠ 3) (ht : a.text = b.text) : ordV a b = signV (Op.bytesLess a.extra.toList b.extra.toList) (!Op.bytesLess a.extra.toList b.extra.toList && !a.extra.toList == b.extra.toList) := by
 rw [ordV_text h ha ha3, ht, cmpS_self, thenC_zero, sign_text]
theorem ord_text1 {a b : Val} (h : rankS a.kind = rankS b.kind) (ha : bareK a.kind = false) (ha3 : a.kind ≠ 3) (ht : a.text ≠ b.text) : ordV a b = signV (Op.bytesLess a.text.toList b.text.toList) true := by
 have hne : cmpS a.text.data.toList b.text.data.toList ≠ 0 := fun e => ht (bytes_eq ((cmpS_lin.eqv _ _).1 e))
 rw [ordV_text h ha ha3, thenC_ne hne, ByteArray.toList_eq, ByteArray.toList_eq]
 unfold cmpS at hne ⊢
 unfold signV
 by_cases h1 : Op.bytesLess a.text.data.toList b.text.data.toList = true
 ·rw [if_pos h1, if_pos h1]
 ·rw [if_neg h1] at hne ⊢
  rw [if_neg h1, if_pos rfl]
  by_cases h2 : Op.bytesLess b.text.data.toList a.text.data.toList = true
  ·rw [if_pos h2]
  ·rw [if_neg h2] at hne; exact absurd rfl hne
set_option maxRecDepth 100000 in
set_option maxHeartbeats 8000000 in
/-- The others. -/
theorem refOrder_text1 (a b : Val) (sa sb : Value) (w : World) (h : rankS a.kind = rankS b.kind) (ha : bareK a.kind = false) (ha3 : a.kind ≠ 3) (ht : a.text ≠ b.text) :
    Calls Tryz.prog 15 #[.int .i64 1, .agg (cellsV a sa), .agg (cellsV b sb)] w (OrdIs a b w) := by
 have hr1 := Lib.hid (fun W : World => rank2_any a.kind W)
 have hr2 := Lib.hid (fun W : World => rank2_any b.kind W)
 obtain ⟨v, Hv⟩ := name_itV (ordV a b)
 have HE := Lib.hid (show ∀ w', Below w.heap.size w w' → OrdIs a b w (.returned (.int .i64 v)) w' from fun w' hb => ⟨by rw [Hv.out], hb⟩)
 have hrk := Lib.hid (show rankS a.kind ≠ 9 ∧ rankS a.kind ≠ 1 ∧ rankS a.kind ≠ 2 ∧ rankS a.kind ≠ 3 ∧ rankS a.kind ≠ 8 from rank_bare ha ha3)
 rw [← h] at hr2
 obtain ⟨r, Hr⟩ := name_itV (rankS a.kind)
 rw [Hr.out] at hr1 hr2 hrk
 have r9 : (r == 9) = false := by simpa using hrk.out.1
 have r1 : (r == 1) = false := by simpa using hrk.out.2.1
 have r2 : (r == 2) = false := by simpa using hrk.out.2.2.1
 have r3 : (r == 3) = false := by simpa using hrk.out.2.2.2.1
 have r8 : (r == 8) = false := by simpa using hrk.out.2.2.2.2
 clear Hr
 have hte := strV_ne ht
 have hv := Lib.hid (show ordV a b = signV (Op.bytesLess a.text.toList b.text.toList) true from ord_text1 h ha ha3 ht)
 rw [Hv.out] at hv
 have hsg := Lib.hid (fun W : World => (show Calls Tryz.prog 54 #[.bool (Op.bytesLess a.text.toList b.text.toList), .bool true] W (fun e w' => e = .returned (.int .i64 v) ∧ w' = W) from by rw [hv.out]; exact sign_any _ _ W))
 clear ht Hv hv h ha ha3
 cases a with
 | mk k1 b1 n1 t1 x1 l1 =>
 cases b with
 | mk k2 b2 n2 t2 x2 l2 =>
 unfold cellsV
 simp only [Val.kind, Val.truth, Val.num, Val.text, Val.extra] at hr1 hr2 hte hsg ⊢
 obtain ⟨z, Hz⟩ := name_itV w.heap.size
 obtain ⟨w1, HW1⟩ := name_itV ((w.alloc (.cells #[.int .i64 k1, .bool b1, .int .i64 n1, .string t1, .string x1, sa] 34)).alloc (.cells #[.int .i64 k2, .bool b2, .int .i64 n2, .string t2, .string x2, sb] 34))
 have HB := Lib.hid (show Below w.heap.size w w1 from by rw [← HW1.out]; exact two_new w _ _)
 have HX := Lib.hid (show w1.heap[z]? = some (.cells #[.int .i64 k1, .bool b1, .int .i64 n1, .string t1, .string x1, sa] 34 (0, 0)) from by rw [← HW1.out, ← Hz.out]; exact heap_alloc2_old w _ _)
 have HY := Lib.hid (show w1.heap[z + 1]? = some (.cells #[.int .i64 k2, .bool b2, .int .i64 n2, .string t2, .string x2, sb] 34 (0, 0)) from by rw [← HW1.out, ← Hz.out]; exact heap_alloc2_new w _ _)
 have p0 : w1.cell? ⟨z, 0, none⟩ = some (.int .i64 k1) := Lib.cell_of_heap HX.out 0
 have q0 : w1.cell? ⟨z + 1, 0, none⟩ = some (.int .i64 k2) := Lib.cell_of_heap HY.out 0
 have p3 : w1.cell? ⟨z, 3, none⟩ = some (.string t1) := Lib.cell_of_heap HX.out 3
 have q3 : w1.cell? ⟨z + 1, 3, none⟩ = some (.string t2) := Lib.cell_of_heap HY.out 3
 have p4 : w1.cell? ⟨z, 4, none⟩ = some (.string x1) := Lib.cell_of_heap HX.out 4
 have q4 : w1.cell? ⟨z + 1, 4, none⟩ = some (.string x2) := Lib.cell_of_heap HY.out 4
 go_enter Tryz.func15, Tryz.ntmps15
 go_upto_region 1 with fail
 rw [HW1.out, Hz.out]
 clear HW1
 go_wp2_with fail
 refine (hr1.out w1).mono ?_
 rintro e w2 ⟨rfl, rfl⟩
 go_wp2_with fail
 refine (hr2.out _).mono ?_
 rintro e w3 ⟨rfl, rfl⟩
 go_wp2_with fail
 refine (hsg.out _).mono ?_
 rintro e w4 ⟨rfl, rfl⟩
 go_wp2_with fail
 go_ret
 exact HE.out _ HB.out
set_option maxRecDepth 100000 in
set_option maxHeartbeats 8000000 in
/-- The others. -/
theorem refOrder_text2 (a b : Val) (sa sb : Value) (w : World) (h : rankS a.kind = rankS b.kind) (ha : bareK a.kind = false) (ha3 : a.kind ≠ 3) (ht : a.text = b.text) :
    Calls Tryz.prog 15 #[.int .i64 1, .agg (cellsV a sa), .agg (cellsV b sb)] w (OrdIs a b w) := by
 have hr1 := Lib.hid (fun W : World => rank2_any a.kind W)
 have hr2 := Lib.hid (fun W : World => rank2_any b.kind W)
 obtain ⟨v, Hv⟩ := name_itV (ordV a b)
 have HE := Lib.hid (show ∀ w', Below w.heap.size w w' → OrdIs a b w (.returned (.int .i64 v)) w' from fun w' hb => ⟨by rw [Hv.out], hb⟩)
 have hrk := Lib.hid (show rankS a.kind ≠ 9 ∧ rankS a.kind ≠ 1 ∧ rankS a.kind ≠ 2 ∧ rankS a.kind ≠ 3 ∧ rankS a.kind ≠ 8 from rank_bare ha ha3)
 rw [← h] at hr2
 obtain ⟨r, Hr⟩ := name_itV (rankS a.kind)
 rw [Hr.out] at hr1 hr2 hrk
 have r9 : (r == 9) = false := by simpa using hrk.out.1
 have r1 : (r == 1) = false := by simpa using hrk.out.2.1
 have r2 : (r == 2) = false := by simpa using hrk.out.2.2.1
 have r3 : (r == 3) = false := by simpa using hrk.out.2.2.2.1
 have r8 : (r == 8) = false := by simpa using hrk.out.2.2.2.2
 clear Hr
 have hv := Lib.hid (show ordV a b = signV (Op.bytesLess a.extra.toList b.extra.toList) (!Op.bytesLess a.extra.toList b.extra.toList && !a.extra.toList == b.extra.toList) from ord_text2 h ha ha3 ht)
 rw [Hv.out] at hv
 have hsg := Lib.hid (fun W : World => (show Calls Tryz.prog 54 #[.bool (Op.bytesLess a.extra.toList b.extra.toList), .bool (!Op.bytesLess a.extra.toList b.extra.toList && !a.extra.toList == b.extra.toList)] W (fun e w' => e = .returned (.int .i64 v) ∧ w' = W) from by rw [hv.out]; exact sign_any _ _ W))
 clear Hv hv h ha ha3
 cases a with
 | mk k1 b1 n1 t1 x1 l1 =>
 cases b with
 | mk k2 b2 n2 t2 x2 l2 =>
 unfold cellsV
 simp only [Val.kind, Val.truth, Val.num, Val.text, Val.extra] at hr1 hr2 ht hsg ⊢
 subst ht
 obtain ⟨z, Hz⟩ := name_itV w.heap.size
 obtain ⟨w1, HW1⟩ := name_itV ((w.alloc (.cells #[.int .i64 k1, .bool b1, .int .i64 n1, .string t1, .string x1, sa] 34)).alloc (.cells #[.int .i64 k2, .bool b2, .int .i64 n2, .string t1, .string x2, sb] 34))
 have HB := Lib.hid (show Below w.heap.size w w1 from by rw [← HW1.out]; exact two_new w _ _)
 have HX := Lib.hid (show w1.heap[z]? = some (.cells #[.int .i64 k1, .bool b1, .int .i64 n1, .string t1, .string x1, sa] 34 (0, 0)) from by rw [← HW1.out, ← Hz.out]; exact heap_alloc2_old w _ _)
 have HY := Lib.hid (show w1.heap[z + 1]? = some (.cells #[.int .i64 k2, .bool b2, .int .i64 n2, .string t1, .string x2, sb] 34 (0, 0)) from by rw [← HW1.out, ← Hz.out]; exact heap_alloc2_new w _ _)
 have p0 : w1.cell? ⟨z, 0, none⟩ = some (.int .i64 k1) := Lib.cell_of_heap HX.out 0
 have q0 : w1.cell? ⟨z + 1, 0, none⟩ = some (.int .i64 k2) := Lib.cell_of_heap HY.out 0
 have p3 : w1.cell? ⟨z, 3, none⟩ = some (.string t1) := Lib.cell_of_heap HX.out 3
 have q3 : w1.cell? ⟨z + 1, 3, none⟩ = some (.string t1) := Lib.cell_of_heap HY.out 3
 have p4 : w1.cell? ⟨z, 4, none⟩ = some (.string x1) := Lib.cell_of_heap HX.out 4
 have q4 : w1.cell? ⟨z + 1, 4, none⟩ = some (.string x2) := Lib.cell_of_heap HY.out 4
 go_enter Tryz.func15, Tryz.ntmps15
 go_upto_region 1 with fail
 rw [HW1.out, Hz.out]
 clear HW1
 go_wp2_with fail
 refine (hr1.out w1).mono ?_
 rintro e w2 ⟨rfl, rfl⟩
 go_wp2_with fail
 refine (hr2.out _).mono ?_
 rintro e w3 ⟨rfl, rfl⟩
 go_wp2_with fail
 refine (hsg.out _).mono ?_
 rintro e w4 ⟨rfl, rfl⟩
 go_wp2_with fail
 go_ret
 exact HE.out _ HB.out
end Go.Proofs.YtijciakkfpjjbaaGreatDoor
namespace Go.Proofs.YtijciakkfpjjbaaGreatDoor
open Go

theorem decB_zeroT : decB zeroT = true := by
 have h : zeroT = ofIntT 0 := by
  unfold zeroT ofIntT Lib.itoa
  rw [if_neg (by decide), show (0 : Int).toNat = 0 from rfl, Lib.decDigits_one (by decide)]
  rfl
 rw [h]
 exact decB_ofInt (by decide) (by decide)
theorem decB_exact {v : Val} (h0 : -9223372036854775808 ≤ v.num) (h1 : v.num ≤ 9223372036854775807) : decB (exactT v) = true := by
 unfold exactT
 by_cases hk : v.kind = 2
 ·rw [if_pos hk]; exact decB_ofInt h0 h1
 ·rw [if_neg hk]
  by_cases hd : decB v.text = true
  ·rw [if_pos hd]; exact hd
  ·rw [if_neg hd]; exact decB_zeroT
end Go.Proofs.YtijciakkfpjjbaaGreatDoor
