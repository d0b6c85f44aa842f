/- What the reference reads of a decimal. -/
import Derived.Test.YtijciakkfpjjbaaGreatDoorM1
import Derived.Test.YtijciakkfpjjbaaGreatDoorL0
import Derived.Laws.OwnMore
import Derived.Deep.RegionHeld3
namespace Go.Proofs.YtijciakkfpjjbaaGreatDoor
open Go Go.RowKit

/-- Sixteen words side by side. -/
def cellsU (f : Nat → Nat) : Array Value := Array.ofFn (n := 16) fun i => .int .u64 (f i.val : Int)
theorem cellsU_at (f : Nat → Nat) {i : Nat} (h : i < 16) : (cellsU f)[i]? = some (.int .u64 (f i : Int)) := by
 unfold cellsU
 rw [Array.getElem?_ofFn, dif_pos h]
/-- Where they lie. -/
def WAt (w : World) (b o : Nat) (f : Nat → Nat) : Prop := ∀ i, i < 16 → w.cell? ⟨b, o + i, none⟩ = some (.int .u64 (f i : Int))
theorem WAt.turn {S : Nat → Prop} {w w' : World} {b o : Nat} {f : Nat → Nat} (h : WAt w b o f) (ht : Turn S w w') (hb : b < w.heap.size) (hS : ¬ S b) : WAt w' b o f := fun i hi => (ht.cell (p := ⟨b, o + i, none⟩) hb hS).trans (h i hi)
theorem WAt.congr {w : World} {b o : Nat} {f g : Nat → Nat} (h : WAt w b o f) (he : ∀ i, i < 16 → f i = g i) : WAt w b o g := fun i hi => by rw [← he i hi]; exact h i hi
theorem WAt.put {w : World} {b o : Nat} {f : Nat → Nat} (h : WAt w b o f) {i : Nat} (hi : i < 16) (m : Nat) : WAt (w.setCell ⟨b, o + i, none⟩ (.int .u64 (m : Int))) b o (fun j => if j = i then m else f j) := fun j hj => by
 by_cases e : j = i
 ·subst e
  simp only [if_pos]
  exact World.cell?_setCell_same w _ _ (h j hj)
 ·simp only [if_neg e]
  exact (World.cell?_setCell_other w _ _ _ (fun e2 => by injection e2 with _ e2; omega)).trans (h j hj)
theorem wat_heap {w : World} {b : Nat} {f : Nat → Nat} {T : TypeId} (h : w.heap[b]? = some (.cells (cellsU f) T (0, 0))) : WAt w b 0 f := fun i hi => by
 rw [Nat.zero_add]
 exact (Lib.cell_of_heap h i).trans (cellsU_at f hi)
theorem turn_dN {S : Nat → Prop} {w w' : World} (h : Turn S w w') (m : Nat) : Turn S w (w'.drewN m) := ⟨h.os, h.tape, h.output, h.size, h.block⟩
theorem add_at (b o i : Nat) : (⟨b, o, none⟩ : Addr).add i = ⟨b, o + i, none⟩ := by
 unfold Addr.add
 split
 ·rename_i h; rw [h]; rfl
 ·rfl
theorem frozen_keepT {S : Nat → Prop} {w w' : World} {g o : Nat} (h : Turn S w w') (hg : g < w.heap.size) (hS : ¬ S g) (hf : w.frozen? ⟨g, o, none⟩ = false) : w'.frozen? ⟨g, o, none⟩ = false := by
 have hb := h.block g hg hS
 unfold World.frozen? at *
 simpa [hb] using hf
theorem add_zero_at' (g n : Nat) : (⟨g, 0, none⟩ : Addr).add n = ⟨g, n, none⟩ := by
 rw [add_at, Nat.zero_add]
theorem u64_in {n : Nat} (h : n < 18446744073709551616) : IntKind.u64.wrap (n : Int) = (n : Int) := by
 have h1 : (n : Int) < 18446744073709551616 := by omega
 have h2 : (0 : Int) ≤ n := by omega
 unfold IntKind.wrap
 simp [IntKind.signed, IntKind.bits]
 omega
/-- What lies beside an amount is as it was. -/
def KeepO (w w' : World) (b o : Nat) : Prop := ∀ j, (j < o ∨ o + 16 ≤ j) → w'.cell? ⟨b, j, none⟩ = w.cell? ⟨b, j, none⟩
set_option maxRecDepth 100000 in
set_option maxHeartbeats 4000000 in
/-- A sum, laid where the first amount lay. -/
theorem wadd_any (b o : Nat) (f g : Nat → Nat) (w : World) (hf : ∀ i, i < 16 → f i < bW) (hg : ∀ i, i < 16 → g i < bW) (hw : WAt w b o f) (hfr : ∀ j, w.frozen? ⟨b, j, none⟩ = false) (hb : b < w.heap.size) :
    Calls Tryz.prog 179 #[.pointer (some ⟨b, o, none⟩), .agg (cellsU g)] w fun e w' => e = .returned (.tuple #[]) ∧ ∃ h, WAt w' b o h ∧ (∀ i, i < 16 → h i < bW) ∧ (∃ c, pv h 16 + c * bW ^ 16 = pv f 16 + pv g 16) ∧ Turn (fun k => k = b) w w' ∧ KeepO w w' b o := by
 have HF := Lib.hid hf
 have HG := Lib.hid hg
 have HFR := Lib.hid hfr
 obtain ⟨z, Hz⟩ := name_itV w.heap.size
 obtain ⟨w1, HW1⟩ := name_itV (w.alloc (.cells (cellsU g) 200))
 have HT1 := Lib.hid (show Turn (fun k => k = b) w w1 from by rw [← HW1.out]; exact (Turn.refl _ _).alloc _)
 go_enter Tryz.func179, Tryz.ntmps179
 go_upto_region 1 with fail
 rw [HW1.out, Hz.out]
 have hbz : b ≠ z := by have := Hz.out; omega
 have HBZ := Lib.hid (show b < z from by have := Hz.out; omega)
 have HX1 := Lib.hid (show WAt w1 z 0 g from wat_heap (T := 200) (by rw [← HW1.out, ← Hz.out]; exact heap_alloc_new w _))
 have HZ1 := Lib.hid (show z < w1.heap.size from by rw [← HW1.out, ← Hz.out]; simp)
 have HY1 := Lib.hid (show WAt w1 b o f from fun i hi => by
  rw [← HW1.out, World.cell?_alloc_lt w _ _ (by show b < _; exact hb)]
  exact hw i hi)
 have HR1 := Lib.hid (fun (j : Nat) => (show w1.frozen? ⟨b, j, none⟩ = false from frozen_keepT (S := fun _ => False) (by rw [← HW1.out]; exact (Turn.refl _ _).alloc _) hb (fun h => h) (HFR.out j)))
 have HB1 := Lib.hid (show b < w1.heap.size from by have := HZ1.out; have := HBZ.out; omega)
 have HK1 := Lib.hid (fun (j : Nat) => (show w1.cell? ⟨b, j, none⟩ = w.cell? ⟨b, j, none⟩ from by rw [← HW1.out]; exact World.cell?_alloc_lt w _ _ (by show b < _; exact hb)))
 clear hf hg hw hfr hb
 go_wp2_with fail
 go_loopw [4, 7] (fun s4 s7 wx => ∃ (i c : Nat) (h : Nat → Nat), i ≤ 16 ∧ c ≤ 1 ∧ s7 = .int .i64 (i : Nat) ∧ s4 = .int .u64 (c : Nat) ∧ Hid (WAt wx b o h ∧ (∀ j, j < i → h j < bW) ∧ (∀ j, i ≤ j → h j = f j) ∧ pv h i + c * bW ^ i = pv f i + pv g i ∧ Turn (fun k => k = b) w1 wx ∧ (∀ j, wx.frozen? ⟨b, j, none⟩ = false) ∧ KeepO w1 wx b o)) (fun _ s7 _ => 16 - (intOf s7).toNat)
 case atStart => exact ⟨0, 0, f, by omega, by omega, rfl, rfl, Lib.hid ⟨HY1.out, fun j hj => absurd hj (Nat.not_lt_zero _), fun _ _ => rfl, by simp [pv], Turn.refl _ _, HR1.out, fun _ _ => rfl⟩⟩
 case round =>
  obtain ⟨i, c, h, hi, hc, rfl, rfl, hM⟩ := hrel
  by_cases hlt : i < 16
  ·obtain ⟨x, Hx⟩ := name_itV (f i)
   obtain ⟨y, Hy⟩ := name_itV (g i)
   have hxb := HF.out i hlt
   have hyb := HG.out i hlt
   rw [Hx.out] at hxb
   rw [Hy.out] at hyb
   have hbw : bW = 1000000000 := rfl
   obtain ⟨m, Hm⟩ := name_itV ((x + y + c) % 1000000000)
   obtain ⟨q, Hq⟩ := name_itV ((x + y + c) / 1000000000)
   have hml : m < 1000000000 := by rw [← Hm.out]; exact Nat.mod_lt _ (by decide)
   have hql : q ≤ 1 := by rw [← Hq.out]; omega
   have c1 : wr.cell? ⟨b, o + i, none⟩ = some (.int .u64 (x : Int)) := by
    have := hM.out.1 i hlt
    rw [hM.out.2.2.1 i (Nat.le_refl _), Hx.out] at this
    exact this
   have c2 : wr.cell? ⟨z, i, none⟩ = some (.int .u64 (y : Int)) := by
    have h1 := (HX1.out.turn hM.out.2.2.2.2.1 HZ1.out (fun e => by have := HBZ.out; omega)) i hlt
    rw [Nat.zero_add, Hy.out] at h1
    exact h1
   have f1 : wr.frozen? ⟨b, o + i, none⟩ = false := hM.out.2.2.2.2.2.1 (o + i)
   have a1 := add_at b o i
   have a2 := add_zero_at' z i
   have e1 : (0 : Int) ≤ i := by omega
   have e2 : (i : Int) < 16 := by omega
   have w0 : IntKind.i64.wrap ((i : Int) + 1) = (i : Int) + 1 := IntWalk.i64_in _ (by omega)
   obtain ⟨S1, HS1⟩ := name_itV (x + y)
   obtain ⟨S2, HS2⟩ := name_itV (x + y + c)
   have w1' : IntKind.u64.wrap ((x : Int) + (y : Int)) = (S1 : Int) := by
    rw [← HS1.out, ← Int.natCast_add]; exact u64_in (by omega)
   have w2 : IntKind.u64.wrap ((S1 : Int) + (c : Int)) = (S2 : Int) := by
    rw [← HS1.out, ← HS2.out, ← Int.natCast_add]; exact u64_in (by omega)
   have r1 : Int.tmod (S2 : Int) 1000000000 = (m : Int) := by rw [← Hm.out, ← HS2.out]; rfl
   have r2 : Int.tdiv (S2 : Int) 1000000000 = (q : Int) := by rw [← Hq.out, ← HS2.out]; rfl
   have r3 : (S2 : Int) % 1000000000 = (m : Int) := by rw [← Hm.out, ← HS2.out]; rfl
   have r4 : (S2 : Int) / 1000000000 = (q : Int) := by rw [← Hq.out, ← HS2.out]; rfl
   have w3 : IntKind.u64.wrap (m : Int) = (m : Int) := u64_in (by omega)
   have w4 : IntKind.u64.wrap (q : Int) = (q : Int) := u64_in (by omega)
   go_upto_region 5 with fail
   go_quiet (fail)
   obtain ⟨wq, Hwq⟩ := name_itV (wr.drewN nq)
   have d1 : wq.cell? ⟨b, o + i, none⟩ = some (.int .u64 (x : Int)) := by rw [← Hwq.out]; exact c1
   have f2 : wq.frozen? ⟨b, o + i, none⟩ = false := by rw [← Hwq.out]; exact f1
   have HTQ := Lib.hid (show Turn (fun k => k = b) w1 wq from by rw [← Hwq.out]; exact turn_dN hM.out.2.2.2.2.1 nq)
   have HWQ := Lib.hid (show WAt wq b o h from by rw [← Hwq.out]; exact hM.out.1)
   have HFQ := Lib.hid (fun (j : Nat) => (show wq.frozen? ⟨b, j, none⟩ = false from by rw [← Hwq.out]; exact hM.out.2.2.2.2.2.1 j))
   have HKO := Lib.hid (show KeepO w1 wq b o from by rw [← Hwq.out]; exact hM.out.2.2.2.2.2.2)
   have HHH := Lib.hid (And.intro hM.out.2.1 (And.intro hM.out.2.2.1 hM.out.2.2.2.1))
   rw [Hwq.out]
   clear c1 c2 f1 hM
   go_wp2_with fail
   go_roundw
   case measure => simp [intOf]; omega
   case rel =>
    obtain ⟨h1, h2, h3⟩ := HHH.out
    refine ⟨i + 1, q, fun j => if j = i then m else h j, by omega, hql, by go_num, rfl, Lib.hid ⟨HWQ.out.put hlt m, fun j hj => ?_, fun j hj => ?_, ?_, HTQ.out.setCell (p := ⟨b, o + i, none⟩) (.inr rfl) _, fun j => ?_, fun j hj => ?_⟩⟩
    ·by_cases e : j = i
     ·simp only [if_pos e]; exact hml
     ·simp only [if_neg e]; exact h1 j (by omega)
    ·simp only [if_neg (show j ≠ i by omega)]
     exact h2 j (by omega)
    ·have hp := pv_add (f := f) (g := g) (o := fun j => if j = i then m else h j) (i := i) (c := c) (by
       rw [← h3]
       congr 1
       exact pv_congr (fun j hj => if_neg (by omega))) (by rw [Hx.out, Hy.out, hbw, Hm.out]; exact if_pos rfl)
     rw [Hx.out, Hy.out] at hp
     rw [show (x + y + c) / bW = q from Hq.out] at hp
     exact hp
    ·have := HFQ.out j
     simpa using this
    ·exact (World.cell?_setCell_other wq _ _ _ (fun e2 => by injection e2 with _ e2; omega)).trans (HKO.out j hj)
  ·have hie : i = 16 := by omega
   have e2 : ¬ (i : Int) < 16 := by omega
   go_wp2_with fail
   go_end0
   subst hie
   exact ⟨rfl, h, hM.out.1, hM.out.2.1, ⟨c, hM.out.2.2.2.1⟩, HT1.out.trans hM.out.2.2.2.2.1, fun j hj => (hM.out.2.2.2.2.2.2 j hj).trans (HK1.out j)⟩
set_option maxRecDepth 100000 in
set_option maxHeartbeats 4000000 in
/-- A difference, laid where the first amount lay. -/
theorem wsub_any (b o : Nat) (f g : Nat → Nat) (w : World) (hf : ∀ i, i < 16 → f i < bW) (hg : ∀ i, i < 16 → g i < bW) (hw : WAt w b o f) (hfr : ∀ j, w.frozen? ⟨b, j, none⟩ = false) (hb : b < w.heap.size) (hle : pv g 16 ≤ pv f 16) :
    Calls Tryz.prog 181 #[.pointer (some ⟨b, o, none⟩), .agg (cellsU g)] w fun e w' => e = .returned (.tuple #[]) ∧ ∃ h, WAt w' b o h ∧ (∀ i, i < 16 → h i < bW) ∧ pv h 16 = pv f 16 - pv g 16 ∧ Turn (fun k => k = b) w w' ∧ KeepO w w' b o := by
 have HF := Lib.hid hf
 have HG := Lib.hid hg
 have HFR := Lib.hid hfr
 obtain ⟨z, Hz⟩ := name_itV w.heap.size
 obtain ⟨w1, HW1⟩ := name_itV (w.alloc (.cells (cellsU g) 200))
 have HT1 := Lib.hid (show Turn (fun k => k = b) w w1 from by rw [← HW1.out]; exact (Turn.refl _ _).alloc _)
 go_enter Tryz.func181, Tryz.ntmps181
 go_upto_region 1 with fail
 rw [HW1.out, Hz.out]
 have hbz : b ≠ z := by have := Hz.out; omega
 have HBZ := Lib.hid (show b < z from by have := Hz.out; omega)
 have HX1 := Lib.hid (show WAt w1 z 0 g from wat_heap (T := 200) (by rw [← HW1.out, ← Hz.out]; exact heap_alloc_new w _))
 have HZ1 := Lib.hid (show z < w1.heap.size from by rw [← HW1.out, ← Hz.out]; simp)
 have HY1 := Lib.hid (show WAt w1 b o f from fun i hi => by
  rw [← HW1.out, World.cell?_alloc_lt w _ _ (by show b < _; exact hb)]
  exact hw i hi)
 have HR1 := Lib.hid (fun (j : Nat) => (show w1.frozen? ⟨b, j, none⟩ = false from frozen_keepT (S := fun _ => False) (by rw [← HW1.out]; exact (Turn.refl _ _).alloc _) hb (fun h => h) (HFR.out j)))
 have HB1 := Lib.hid (show b < w1.heap.size from by have := HZ1.out; have := HBZ.out; omega)
 have HK1 := Lib.hid (fun (j : Nat) => (show w1.cell? ⟨b, j, none⟩ = w.cell? ⟨b, j, none⟩ from by rw [← HW1.out]; exact World.cell?_alloc_lt w _ _ (by show b < _; exact hb)))
 clear hf hg hw hfr hb
 go_wp2_with fail
 go_loopw [4, 7] (fun s4 s7 wx => ∃ (i c : Nat) (h : Nat → Nat), i ≤ 16 ∧ c ≤ 1 ∧ s7 = .int .i64 (i : Nat) ∧ s4 = .int .u64 (c : Nat) ∧ Hid (WAt wx b o h ∧ (∀ j, j < i → h j < bW) ∧ (∀ j, i ≤ j → h j = f j) ∧ pv h i + pv g i = pv f i + c * bW ^ i ∧ Turn (fun k => k = b) w1 wx ∧ (∀ j, wx.frozen? ⟨b, j, none⟩ = false) ∧ KeepO w1 wx b o)) (fun _ s7 _ => 16 - (intOf s7).toNat)
 case atStart => exact ⟨0, 0, f, by omega, by omega, rfl, rfl, Lib.hid ⟨HY1.out, fun j hj => absurd hj (Nat.not_lt_zero _), fun _ _ => rfl, by simp [pv], Turn.refl _ _, HR1.out, fun _ _ => rfl⟩⟩
 case round =>
  obtain ⟨i, c, h, hi, hc, rfl, rfl, hM⟩ := hrel
  by_cases hlt : i < 16
  ·obtain ⟨x, Hx⟩ := name_itV (f i)
   obtain ⟨y, Hy⟩ := name_itV (g i)
   have hxb := HF.out i hlt
   have hyb := HG.out i hlt
   rw [Hx.out] at hxb
   rw [Hy.out] at hyb
   have hbw : bW = 1000000000 := rfl
   obtain ⟨m, Hm⟩ := name_itV ((x + 1000000000 - y - c) % 1000000000)
   obtain ⟨q, Hq⟩ := name_itV ((x + 1000000000 - y - c) / 1000000000)
   have hml : m < 1000000000 := by rw [← Hm.out]; exact Nat.mod_lt _ (by decide)
   have hql : q ≤ 1 := by rw [← Hq.out]; omega
   have c1 : wr.cell? ⟨b, o + i, none⟩ = some (.int .u64 (x : Int)) := by
    have := hM.out.1 i hlt
    rw [hM.out.2.2.1 i (Nat.le_refl _), Hx.out] at this
    exact this
   have c2 : wr.cell? ⟨z, i, none⟩ = some (.int .u64 (y : Int)) := by
    have h1 := (HX1.out.turn hM.out.2.2.2.2.1 HZ1.out (fun e => by have := HBZ.out; omega)) i hlt
    rw [Nat.zero_add, Hy.out] at h1
    exact h1
   have f1 : wr.frozen? ⟨b, o + i, none⟩ = false := hM.out.2.2.2.2.2.1 (o + i)
   have a1 := add_at b o i
   have a2 := add_zero_at' z i
   have e1 : (0 : Int) ≤ i := by omega
   have e2 : (i : Int) < 16 := by omega
   have w0 : IntKind.i64.wrap ((i : Int) + 1) = (i : Int) + 1 := IntWalk.i64_in _ (by omega)
   obtain ⟨S1, HS1⟩ := name_itV (x + 1000000000)
   obtain ⟨S3, HS3⟩ := name_itV (x + 1000000000 - y)
   obtain ⟨S2, HS2⟩ := name_itV (x + 1000000000 - y - c)
   obtain ⟨q2, Hq2⟩ := name_itV (1 - q)
   have w1' : IntKind.u64.wrap ((x : Int) + 1000000000) = (S1 : Int) := by
    rw [← HS1.out]; exact u64_in (n := x + 1000000000) (by omega)
   have w5 : IntKind.u64.wrap ((S1 : Int) - (y : Int)) = (S3 : Int) := by
    rw [show (S1 : Int) - (y : Int) = (S3 : Int) by rw [← HS1.out, ← HS3.out]; omega]
    exact u64_in (by rw [← HS3.out]; omega)
   have w2 : IntKind.u64.wrap ((S3 : Int) - (c : Int)) = (S2 : Int) := by
    rw [show (S3 : Int) - (c : Int) = (S2 : Int) by rw [← HS3.out, ← HS2.out]; omega]
    exact u64_in (by rw [← HS2.out]; omega)
   have w6 : IntKind.u64.wrap ((1 : Int) - (q : Int)) = (q2 : Int) := by
    rw [show (1 : Int) - (q : Int) = (q2 : Int) by rw [← Hq2.out]; omega]
    exact u64_in (by rw [← Hq2.out]; omega)
   have r1 : Int.tmod (S2 : Int) 1000000000 = (m : Int) := by rw [← Hm.out, ← HS2.out]; rfl
   have r2 : Int.tdiv (S2 : Int) 1000000000 = (q : Int) := by rw [← Hq.out, ← HS2.out]; rfl
   have r3 : (S2 : Int) % 1000000000 = (m : Int) := by rw [← Hm.out, ← HS2.out]; rfl
   have r4 : (S2 : Int) / 1000000000 = (q : Int) := by rw [← Hq.out, ← HS2.out]; rfl
   have w3 : IntKind.u64.wrap (m : Int) = (m : Int) := u64_in (by omega)
   have w4 : IntKind.u64.wrap (q : Int) = (q : Int) := u64_in (by omega)
   go_upto_region 5 with fail
   go_quiet (fail)
   obtain ⟨wq, Hwq⟩ := name_itV (wr.drewN nq)
   have d1 : wq.cell? ⟨b, o + i, none⟩ = some (.int .u64 (x : Int)) := by rw [← Hwq.out]; exact c1
   have f2 : wq.frozen? ⟨b, o + i, none⟩ = false := by rw [← Hwq.out]; exact f1
   have HTQ := Lib.hid (show Turn (fun k => k = b) w1 wq from by rw [← Hwq.out]; exact turn_dN hM.out.2.2.2.2.1 nq)
   have HWQ := Lib.hid (show WAt wq b o h from by rw [← Hwq.out]; exact hM.out.1)
   have HFQ := Lib.hid (fun (j : Nat) => (show wq.frozen? ⟨b, j, none⟩ = false from by rw [← Hwq.out]; exact hM.out.2.2.2.2.2.1 j))
   have HKO := Lib.hid (show KeepO w1 wq b o from by rw [← Hwq.out]; exact hM.out.2.2.2.2.2.2)
   have HHH := Lib.hid (And.intro hM.out.2.1 (And.intro hM.out.2.2.1 hM.out.2.2.2.1))
   rw [Hwq.out]
   clear c1 c2 f1 hM
   go_wp2_with fail
   go_roundw
   case measure => simp [intOf]; omega
   case rel =>
    obtain ⟨h1, h2, h3⟩ := HHH.out
    refine ⟨i + 1, q2, fun j => if j = i then m else h j, by omega, by rw [← Hq2.out]; omega, by go_num, rfl, Lib.hid ⟨HWQ.out.put hlt m, fun j hj => ?_, fun j hj => ?_, ?_, HTQ.out.setCell (p := ⟨b, o + i, none⟩) (.inr rfl) _, fun j => ?_, fun j hj => ?_⟩⟩
    ·by_cases e : j = i
     ·simp only [if_pos e]; exact hml
     ·simp only [if_neg e]; exact h1 j (by omega)
    ·simp only [if_neg (show j ≠ i by omega)]
     exact h2 j (by omega)
    ·have hp := (pv_sub (f := f) (g := g) (o := fun j => if j = i then m else h j) (i := i) (b := c) (by
       rw [← h3]
       congr 1
       exact pv_congr (fun j hj => if_neg (by omega))) (by rw [Hy.out]; exact hyb) hc (by rw [Hx.out]; exact hxb) (by rw [Hx.out, Hy.out, hbw, Hm.out]; exact if_pos rfl)).1
     rw [Hx.out, Hy.out] at hp
     rw [show (x + bW - y - c) / bW = q from Hq.out, Hq2.out] at hp
     exact hp
    ·have := HFQ.out j
     simpa using this
    ·exact (World.cell?_setCell_other wq _ _ _ (fun e2 => by injection e2 with _ e2; omega)).trans (HKO.out j hj)
  ·have hie : i = 16 := by omega
   have e2 : ¬ (i : Int) < 16 := by omega
   go_wp2_with fail
   go_end0
   subst hie
   exact ⟨rfl, h, hM.out.1, hM.out.2.1, pv_sub_end hM.out.2.2.2.1 hM.out.2.1 hle, HT1.out.trans hM.out.2.2.2.2.1, fun j hj => (hM.out.2.2.2.2.2.2 j hj).trans (HK1.out j)⟩
def cmpN (a b : Nat) : Int := if a < b then -1 else if b < a then 1 else 0
set_option maxRecDepth 100000 in
set_option maxHeartbeats 4000000 in
/-- Two amounts held against each other. -/
theorem wcmp_any (f g : Nat → Nat) (w : World) (hf : ∀ i, i < 16 → f i < bW) (hg : ∀ i, i < 16 → g i < bW) :
    Calls Tryz.prog 180 #[.agg (cellsU f), .agg (cellsU g)] w fun e w' => e = .returned (.int .i64 (cmpN (pv f 16) (pv g 16))) ∧ Below w.heap.size w w' := by
 have HF := Lib.hid hf
 have HG := Lib.hid hg
 obtain ⟨z, Hz⟩ := name_itV w.heap.size
 obtain ⟨w1, HW1⟩ := name_itV ((w.alloc (.cells (cellsU f) 200)).alloc (.cells (cellsU g) 200))
 have HB1 := Lib.hid (show Below w.heap.size w w1 from by rw [← HW1.out]; exact ((Below.refl _ w).alloc (Nat.le_refl _) _).alloc (by simp) _)
 have HX1 := Lib.hid (show WAt w1 z 0 f from wat_heap (T := 200) (by
  rw [← HW1.out, ← Hz.out, Below.heap_alloc _ _ _ (by simp)]
  exact heap_alloc_new w _))
 have HY1 := Lib.hid (show WAt w1 (z + 1) 0 g from wat_heap (T := 200) (by
  rw [← HW1.out, ← Hz.out]
  have := heap_alloc_new (w.alloc (.cells (cellsU f) 200)) (.cells (cellsU g) 200)
  simpa using this))
 obtain ⟨r, Hr⟩ := name_itV (cmpN (pv f 16) (pv g 16))
 rw [Hr.out]
 clear hf hg
 go_enter Tryz.func180, Tryz.ntmps180
 go_upto_region 1 with fail
 rw [HW1.out, Hz.out]
 go_wp2_with fail
 go_loopw [5] (fun s5 wx => ∃ (i : Nat) (v : Int) (q : Nat), i ≤ 16 ∧ s5 = .int .i64 v ∧ v = (i : Int) - 1 ∧ Hid (wx = w1.drewN q ∧ ∀ j, i ≤ j → j < 16 → f j = g j)) (fun s5 _ => (intOf s5 + 1).toNat)
 case atStart => exact ⟨16, 15, 0, by omega, rfl, by omega, Lib.hid ⟨rfl, fun j h1 h2 => by omega⟩⟩
 case round =>
  obtain ⟨i, v, q, hi, rfl, hv, hM⟩ := hrel
  have HV := Lib.hid hv
  have HBr := Lib.hid (show Below w.heap.size w wr from by rw [hM.out.1]; exact ⟨HB1.out.os, HB1.out.tape, HB1.out.output, HB1.out.size, HB1.out.block⟩)
  clear hv
  by_cases hlt : 0 < i
  ·obtain ⟨k, hk⟩ : ∃ k, i = k + 1 := ⟨i - 1, by omega⟩
   have hvk : v = (k : Int) := by have := HV.out; omega
   subst hvk
   have HK := Lib.hid hk
   obtain ⟨x, Hx⟩ := name_itV (f k)
   obtain ⟨y, Hy⟩ := name_itV (g k)
   have c1 : wr.cell? ⟨z, k, none⟩ = some (.int .u64 (x : Int)) := by
    have h1 := HX1.out k (by omega)
    rw [Nat.zero_add, Hx.out] at h1
    rw [hM.out.1]
    exact h1
   have c2 : wr.cell? ⟨z + 1, k, none⟩ = some (.int .u64 (y : Int)) := by
    have h1 := HY1.out k (by omega)
    rw [Nat.zero_add, Hy.out] at h1
    rw [hM.out.1]
    exact h1
   have a1 := add_zero_at' z k
   have a2 := add_zero_at' (z + 1) k
   have e1 : (0 : Int) ≤ k := by omega
   have e2 : (k : Int) < 16 := by omega
   have hEQ := Lib.hid hM.out.2
   have HWR := Lib.hid hM.out.1
   clear hM hk
   by_cases h1 : x < y
   ·have g1 : (x : Int) < (y : Int) := by omega
    have HS := Lib.hid (show (-1 : Int) = r from by
     rw [← Hr.out]
     have := pv_cmp (f := f) (g := g) (n := 16) (i := k) HF.out (by omega) (fun j h1 h2 => hEQ.out j (by have := HK.out; omega) h2) (by rw [Hx.out, Hy.out]; exact h1)
     unfold cmpN
     rw [if_pos this])
    clear h1
    go_upto_region 4 with fail
    go_quiet (fail)
    go_wp2_with fail
    go_ret
    exact ⟨congrArg (fun v => Ending.returned (Value.int IntKind.i64 v)) HS.out, ⟨HBr.out.os, HBr.out.tape, HBr.out.output, HBr.out.size, HBr.out.block⟩⟩
   ·have g1 : ¬ (x : Int) < (y : Int) := by omega
    by_cases h2 : y < x
    ·have g2 : (y : Int) < (x : Int) := by omega
     have HS := Lib.hid (show (1 : Int) = r from by
      rw [← Hr.out]
      have := pv_cmp (f := g) (g := f) (n := 16) (i := k) HG.out (by omega) (fun j h1 h2 => (hEQ.out j (by have := HK.out; omega) h2).symm) (by rw [Hx.out, Hy.out]; exact h2)
      unfold cmpN
      rw [if_neg (by omega), if_pos this])
     clear h1 h2
     go_upto_region 4 with fail
     go_quiet (fail)
     obtain ⟨wq, Hwq⟩ := name_itV (wr.drewN nq)
     have d1 : wq.cell? ⟨z, k, none⟩ = some (.int .u64 (x : Int)) := by rw [← Hwq.out]; exact c1
     have d2 : wq.cell? ⟨z + 1, k, none⟩ = some (.int .u64 (y : Int)) := by rw [← Hwq.out]; exact c2
     have HBq := Lib.hid (show Below w.heap.size w wq from by rw [← Hwq.out]; exact ⟨HBr.out.os, HBr.out.tape, HBr.out.output, HBr.out.size, HBr.out.block⟩)
     rw [Hwq.out]
     clear c1 c2
     go_upto_region 6 with fail
     go_quiet (fail)
     go_wp2_with fail
     go_ret
     exact ⟨congrArg (fun v => Ending.returned (Value.int IntKind.i64 v)) HS.out, ⟨HBq.out.os, HBq.out.tape, HBq.out.output, HBq.out.size, HBq.out.block⟩⟩
    ·have g2 : ¬ (y : Int) < (x : Int) := by omega
     have hxy : x = y := by omega
     have HE := Lib.hid hxy
     clear h1 h2 hxy
     go_upto_region 4 with fail
     go_quiet (fail)
     obtain ⟨wq, Hwq⟩ := name_itV (wr.drewN nq)
     have d1 : wq.cell? ⟨z, k, none⟩ = some (.int .u64 (x : Int)) := by rw [← Hwq.out]; exact c1
     have d2 : wq.cell? ⟨z + 1, k, none⟩ = some (.int .u64 (y : Int)) := by rw [← Hwq.out]; exact c2
     obtain ⟨q2, HWQ⟩ : ∃ q2, Hid (wq = w1.drewN q2) := ⟨q + nq, Lib.hid (by rw [← Hwq.out, HWR.out, World.drewN_drewN])⟩
     have w2 : IntKind.i64.wrap ((k : Int) - 1) = (k : Int) - 1 := IntWalk.i64_in _ (by omega)
     rw [Hwq.out]
     clear c1 c2 HWR
     go_upto_region 6 with fail
     go_quiet (fail)
     go_wp2_with fail
     go_roundw
     case measure => first | (simp [intOf]; done) | (simp [intOf]; omega)
     case rel =>
      refine ⟨k, (k : Int) - 1, q2 + nq, by omega, rfl, rfl, Lib.hid ⟨by rw [HWQ.out, World.drewN_drewN], fun j hj1 hj2 => ?_⟩⟩
      by_cases e : j = k
      ·rw [e, Hx.out, Hy.out]; exact HE.out
      ·exact hEQ.out j (by have := HK.out; omega) hj2
  ·have h0 : i = 0 := by omega
   have hv1 : v = -1 := by have := HV.out; omega
   subst hv1
   have HS := Lib.hid (show (0 : Int) = r from by
    rw [← Hr.out]
    have h1 := pv_congr (f := f) (g := g) (n := 16) (fun j hj => hM.out.2 j (by omega) hj)
    unfold cmpN
    rw [h1, if_neg (Nat.lt_irrefl _), if_neg (Nat.lt_irrefl _)])
   go_wp2_with fail
   go_ret
   exact ⟨congrArg (fun v => Ending.returned (Value.int IntKind.i64 v)) HS.out, HBr.out⟩
end Go.Proofs.YtijciakkfpjjbaaGreatDoor
namespace Go.Proofs.YtijciakkfpjjbaaGreatDoor

/-- What a digit holds. -/
def bT : Nat := 10
/-- The amount that the first words say, the lowest first. -/
def pt (f : Nat → Nat) : Nat → Nat
 | 0 => 0
 | i + 1 => pt f i + f i * bT ^ i
theorem pt_congr {f g : Nat → Nat} {n : Nat} (h : ∀ i, i < n → f i = g i) : pt f n = pt g n := by
 induction n with
 | zero => rfl
 | succ n ih => rw [pt, pt, ih (fun i hi => h i (by omega)), h n (by omega)]
theorem pt_lt {f : Nat → Nat} {n : Nat} (h : ∀ i, i < n → f i < bT) : pt f n < bT ^ n := by
 induction n with
 | zero => simp [pt]
 | succ n ih =>
  have h1 := ih (fun i hi => h i (by omega))
  have h2 := h n (by omega)
  rw [pt, Nat.pow_succ]
  have h3 : (f n + 1) * bT ^ n ≤ bT * bT ^ n := Nat.mul_le_mul_right _ h2
  rw [Nat.succ_mul] at h3
  rw [Nat.mul_comm (bT ^ n) bT]
  omega
/-- One word more, added with a carry. -/
theorem pt_add {f g o : Nat → Nat} {i c : Nat} (h : pt o i + c * bT ^ i = pt f i + pt g i) (ho : o i = (f i + g i + c) % bT) :
    pt o (i + 1) + (f i + g i + c) / bT * bT ^ (i + 1) = pt f (i + 1) + pt g (i + 1) := by
 have e := Nat.div_add_mod (f i + g i + c) bT
 have e2 : (o i + bT * ((f i + g i + c) / bT)) * bT ^ i = (f i + g i + c) * bT ^ i := by
  rw [ho, Nat.add_comm, e]
 rw [pt, pt, pt, Nat.pow_succ]
 rw [Nat.add_mul, Nat.mul_assoc] at e2
 rw [Nat.add_mul, Nat.add_mul] at e2
 have e3 : (f i + g i + c) / bT * (bT ^ i * bT) = bT * ((f i + g i + c) / bT * bT ^ i) := by
  rw [← Nat.mul_assoc, Nat.mul_comm]
 rw [e3]
 omega
/-- One word more, taken away with a borrow. -/
theorem pt_sub {f g o : Nat → Nat} {i b : Nat} (h : pt o i + pt g i = pt f i + b * bT ^ i) (hg : g i < bT) (hb : b ≤ 1) (hf : f i < bT) (ho : o i = (f i + bT - g i - b) % bT) :
    pt o (i + 1) + pt g (i + 1) = pt f (i + 1) + (1 - (f i + bT - g i - b) / bT) * bT ^ (i + 1) ∧ (f i + bT - g i - b) / bT ≤ 1 := by
 have hx : f i + bT - g i - b < bT * 2 := by omega
 have e := Nat.div_add_mod (f i + bT - g i - b) bT
 have hd : (f i + bT - g i - b) / bT ≤ 1 := Nat.le_of_lt_succ (Nat.div_lt_of_lt_mul hx)
 refine ⟨?_, hd⟩
 have e4 : o i + g i + b = f i + (1 - (f i + bT - g i - b) / bT) * bT := by
  rw [ho]
  rcases Nat.lt_or_ge ((f i + bT - g i - b) / bT) 1 with h1 | h1
  ·have h2 : (f i + bT - g i - b) / bT = 0 := Nat.lt_one_iff.1 h1
   rw [h2] at e ⊢
   omega
  ·have h2 : (f i + bT - g i - b) / bT = 1 := Nat.le_antisymm hd h1
   rw [h2] at e ⊢
   omega
 rw [pt, pt, pt, Nat.pow_succ]
 have e5 := congrArg (· * bT ^ i) e4
 simp only [Nat.add_mul, Nat.mul_assoc] at e5
 have e6 : (1 - (f i + bT - g i - b) / bT) * (bT ^ i * bT) = (1 - (f i + bT - g i - b) / bT) * (bT * bT ^ i) := by rw [Nat.mul_comm (bT ^ i)]
 rw [e6]
 omega
/-- The borrow at the end is none where less is taken away. -/
theorem pt_sub_end {f g o : Nat → Nat} {n b : Nat} (h : pt o n + pt g n = pt f n + b * bT ^ n) (ho : ∀ i, i < n → o i < bT) (hle : pt g n ≤ pt f n) : pt o n = pt f n - pt g n := by
 have h1 := pt_lt ho
 rcases Nat.eq_zero_or_pos b with h2 | h2
 ·subst h2; omega
 ·have h3 : 1 * bT ^ n ≤ b * bT ^ n := Nat.mul_le_mul_right _ h2
  omega
/-- The highest word that is not the same decides. -/
theorem pt_cmp {f g : Nat → Nat} {n i : Nat} (hf : ∀ j, j < n → f j < bT) (hi : i < n) (he : ∀ j, i < j → j < n → f j = g j) (hlt : f i < g i) : pt f n < pt g n := by
 induction n with
 | zero => omega
 | succ n ih =>
  rw [pt, pt]
  by_cases e : i = n
  ·subst e
   have h1 := pt_lt (f := f) (n := i) (fun j hj => hf j (by omega))
   have h2 : (f i + 1) * bT ^ i ≤ g i * bT ^ i := Nat.mul_le_mul_right _ hlt
   rw [Nat.succ_mul] at h2
   omega
  ·have := ih (fun j hj => hf j (by omega)) (by omega) (fun j h1 h2 => he j h1 (by omega))
   rw [he n (by omega) (by omega)]
   omega
theorem pt_more {f : Nat → Nat} {n m : Nat} (h : ∀ i, n ≤ i → i < n + m → f i = 0) : pt f (n + m) = pt f n := by
 induction m with
 | zero => rfl
 | succ m ih => rw [← Nat.add_assoc, pt, ih (fun i h1 h2 => h i h1 (by omega)), h (n + m) (by omega) (by omega), Nat.zero_mul, Nat.add_zero]
theorem atD_big {D : List Nat} {i : Nat} (h : D.length ≤ i) : atD D i = 0 := by unfold atD; rw [List.getElem?_eq_none h]; rfl
/-- What digits say, the lowest first. -/
def amtD (D : List Nat) : Nat := pt (atD D) D.length
theorem amt_at {D : List Nat} {n : Nat} (h : D.length ≤ n) : pt (atD D) n = amtD D := by
 obtain ⟨m, rfl⟩ : ∃ m, n = D.length + m := ⟨n - D.length, by omega⟩
 exact pt_more (fun i h1 _ => atD_big h1)
end Go.Proofs.YtijciakkfpjjbaaGreatDoor
namespace Go.Proofs.YtijciakkfpjjbaaGreatDoor
open Go Go.RowKit

theorem IntsAt.dN {w : World} {A : Option Addr} {D : List Nat} (h : IntsAt w A D) (m : Nat) : IntsAt (w.drewN m) A D := h
def RCmpIs (D E : List Nat) (w : World) (e : Ending) (w' : World) : Prop := e = .returned (.int .i64 (cmpN (amtD D) (amtD E))) ∧ ∃ q, w' = w.drewN q
set_option maxRecDepth 100000 in
set_option maxHeartbeats 4000000 in
theorem rcmp_any (D E : List Nat) (hD : D.length ≤ 1000000000000) (hE : E.length ≤ 1000000000000) (hd : ∀ i, atD D i ≤ 9) (he : ∀ i, atD E i ≤ 9) (A B : Option Addr) (ca cb : Nat) (w : World) (h1 : IntsAt w A D) (h2 : IntsAt w B E) :
    Calls Tryz.prog 117 #[.slice A D.length ca, .slice B E.length cb] w (RCmpIs D E w) := by
 have H1 := Lib.hid h1
 have H2 := Lib.hid h2
 have HD9 := Lib.hid hd
 have HE9 := Lib.hid he
 have hA := Lib.hid (fun (q : Nat) (i : Nat) (hi : i ≤ 4000000000000) => at_any D A ca i hi (w.drewN q) (H1.out.dN q))
 have hB := Lib.hid (fun (q : Nat) (i : Nat) (hi : i ≤ 4000000000000) => at_any E B cb i hi (w.drewN q) (H2.out.dN q))
 obtain ⟨r, Hr⟩ := name_itV (cmpN (amtD D) (amtD E))
 obtain ⟨n, Hn⟩ := name_itV D.length
 obtain ⟨m, Hm⟩ := name_itV E.length
 have HAD := Lib.hid (show pt (atD D) (n + m + 1) = amtD D from amt_at (by rw [Hn.out]; omega))
 have HAE := Lib.hid (show pt (atD E) (n + m + 1) = amtD E from amt_at (by rw [Hm.out]; omega))
 unfold RCmpIs
 rw [Hr.out]
 rw [Hn.out] at hA hD ⊢
 rw [Hm.out] at hB hE ⊢
 have w0 : IntKind.i64.wrap ((n : Int) + (m : Int)) = (n : Int) + (m : Int) := IntWalk.i64_in _ (by omega)
 clear h1 h2 hd he
 go_enter Tryz.func117, Tryz.ntmps117
 go_wp2_with fail
 go_loopw [5] (fun s5 wx => ∃ (i : Nat) (v : Int) (q : Nat), i ≤ n + m + 1 ∧ s5 = .int .i64 v ∧ v = (i : Int) - 1 ∧ Hid (wx = w.drewN q ∧ ∀ j, i ≤ j → j < n + m + 1 → atD D j = atD E j)) (fun s5 _ => (intOf s5 + 1).toNat)
 case atStart => exact ⟨n + m + 1, (n : Int) + (m : Int), 0, by omega, rfl, by omega, Lib.hid ⟨rfl, fun j h1 h2 => by omega⟩⟩
 case round =>
  obtain ⟨i, v, q, hi, rfl, hv, hM⟩ := hrel
  have HV := Lib.hid hv
  clear hv
  by_cases hlt : 0 < i
  ·obtain ⟨k, hk⟩ : ∃ k, i = k + 1 := ⟨i - 1, by omega⟩
   have hvk : v = (k : Int) := by have := HV.out; omega
   subst hvk
   have HK := Lib.hid hk
   have hkb : k ≤ 4000000000000 := by omega
   have hkl : k < n + m + 1 := by omega
   obtain ⟨x, Hx⟩ := name_itV (atD D k)
   obtain ⟨y, Hy⟩ := name_itV (atD E k)
   have hEQ := Lib.hid hM.out.2
   have hA1 := Lib.hid (hA.out q k hkb)
   rw [Hx.out] at hA1
   have hww := hM.out.1
   subst hww
   have e1 : (0 : Int) ≤ k := by omega
   clear hM hk
   go_wp2_with fail
   refine hA1.out.mono ?_
   rintro e w2 ⟨rfl, q1, hw2⟩
   rw [World.drewN_drewN] at hw2
   subst hw2
   have hB1 := Lib.hid (hB.out (q + q1) k hkb)
   rw [Hy.out] at hB1
   by_cases h1 : x = y
   ·have HE := Lib.hid h1
    have t1 : ((x : Int) != (y : Int)) = false := by rw [h1]; exact bne_self_eq_false _
    have w2' : IntKind.i64.wrap ((k : Int) - 1) = (k : Int) - 1 := IntWalk.i64_in _ (by omega)
    clear h1
    go_wp2_with fail
    refine hB1.out.mono ?_
    rintro e w3 ⟨rfl, q2, hw3⟩
    rw [World.drewN_drewN] at hw3
    subst hw3
    go_wp2_with fail
    go_roundw
    case measure => first | (simp [intOf]; done) | (simp [intOf]; omega)
    case rel =>
     refine ⟨k, (k : Int) - 1, q + q1 + q2, by omega, rfl, rfl, Lib.hid ⟨rfl, fun j hj1 hj2 => ?_⟩⟩
     by_cases e : j = k
     ·rw [e, Hx.out, Hy.out]; exact HE.out
     ·exact hEQ.out j (by have := HK.out; omega) hj2
   ·have t1 : ((x : Int) != (y : Int)) = true := by
      rw [bne_iff_ne]
      omega
    go_wp2_with fail
    refine hB1.out.mono ?_
    rintro e w3 ⟨rfl, q2, hw3⟩
    rw [World.drewN_drewN] at hw3
    subst hw3
    have hA2 := Lib.hid (hA.out (q + q1 + q2) k hkb)
    rw [Hx.out] at hA2
    go_wp2_with fail
    refine hA2.out.mono ?_
    rintro e w4 ⟨rfl, q3, hw4⟩
    rw [World.drewN_drewN] at hw4
    subst hw4
    have hB2 := Lib.hid (hB.out (q + q1 + q2 + q3) k hkb)
    rw [Hy.out] at hB2
    by_cases h2 : x < y
    ·have g1 : (x : Int) < (y : Int) := by omega
     have HS := Lib.hid (show (-1 : Int) = r from by
      rw [← Hr.out, ← HAD.out, ← HAE.out]
      have := pt_cmp (f := atD D) (g := atD E) (n := n + m + 1) (i := k) (fun j _ => by have := HD9.out j; show _ < 10; omega) (by have := HK.out; omega) (fun j h1 h2 => hEQ.out j (by have := HK.out; omega) h2) (by rw [Hx.out, Hy.out]; exact h2)
      unfold cmpN
      rw [if_pos this])
     clear h1 h2
     go_wp2_with fail
     refine hB2.out.mono ?_
     rintro e w5 ⟨rfl, q4, hw5⟩
     rw [World.drewN_drewN] at hw5
     subst hw5
     go_wp2_with fail
     go_ret
     exact ⟨congrArg (fun v => Ending.returned (Value.int IntKind.i64 v)) HS.out, _, rfl⟩
    ·have g1 : ¬ (x : Int) < (y : Int) := by omega
     have HS := Lib.hid (show (1 : Int) = r from by
      rw [← Hr.out, ← HAD.out, ← HAE.out]
      have := pt_cmp (f := atD E) (g := atD D) (n := n + m + 1) (i := k) (fun j _ => by have := HE9.out j; show _ < 10; omega) (by have := HK.out; omega) (fun j h1 h2 => (hEQ.out j (by have := HK.out; omega) h2).symm) (by rw [Hx.out, Hy.out]; omega)
      unfold cmpN
      rw [if_neg (by omega), if_pos this])
     clear h1 h2
     go_wp2_with fail
     refine hB2.out.mono ?_
     rintro e w5 ⟨rfl, q4, hw5⟩
     rw [World.drewN_drewN] at hw5
     subst hw5
     go_wp2_with fail
     go_ret
     exact ⟨congrArg (fun v => Ending.returned (Value.int IntKind.i64 v)) HS.out, _, rfl⟩
  ·have h0 : i = 0 := by omega
   have hv1 : v = -1 := by have := HV.out; omega
   subst hv1
   have HS := Lib.hid (show (0 : Int) = r from by
    rw [← Hr.out, ← HAD.out, ← HAE.out]
    have h1 := pt_congr (f := atD D) (g := atD E) (n := n + m + 1) (fun j hj => hM.out.2 j (by omega) hj)
    unfold cmpN
    rw [h1, if_neg (Nat.lt_irrefl _), if_neg (Nat.lt_irrefl _)])
   have HWq := Lib.hid hM.out.1
   go_wp2_with fail
   go_ret
   exact ⟨congrArg (fun v => Ending.returned (Value.int IntKind.i64 v)) HS.out, q, HWq.out⟩
end Go.Proofs.YtijciakkfpjjbaaGreatDoor
namespace Go.Proofs.YtijciakkfpjjbaaGreatDoor
open Go Go.RowKit

def intsV (O : List Nat) : List Value := O.map fun (x : Nat) => Value.int .i64 (x : Int)
theorem atD_app {O : List Nat} {x i : Nat} : atD (O ++ [x]) i = if i < O.length then atD O i else if i = O.length then x else 0 := by
 unfold atD
 by_cases h : i < O.length
 ·rw [if_pos h, List.getElem?_append_left h]
 ·rw [if_neg h, List.getElem?_append_right (by omega)]
  by_cases h2 : i = O.length
  ·rw [if_pos h2, h2, Nat.sub_self]; rfl
  ·rw [if_neg h2]
   obtain ⟨k, hk⟩ : ∃ k, i - O.length = k + 1 := ⟨i - O.length - 1, by omega⟩
   rw [hk]; rfl
theorem pt_app {O : List Nat} {x : Nat} : pt (atD (O ++ [x])) O.length = pt (atD O) O.length := pt_congr fun i hi => by rw [atD_app, if_pos hi]
/-- A sum, told in a row of its own. -/
def RAddIs (D E : List Nat) (w : World) (e : Ending) (w' : World) : Prop := ∃ (O : List Nat) (s : Value), e = .returned s ∧ Below w.heap.size w w' ∧ w'.ownsRow 0 3 1 s O.length (intsV O) ∧ (∀ i, atD O i ≤ 9) ∧ amtD O = amtD D + amtD E ∧ O.length ≤ D.length + E.length + 1 ∧ ∀ g, s.ownBlock = some g → w.heap.size ≤ g
set_option maxRecDepth 100000 in
set_option maxHeartbeats 4000000 in
theorem radd_any (D E : List Nat) (hD : D.length ≤ 10000000) (hE : E.length ≤ 10000000) (hd : ∀ i, atD D i ≤ 9) (he : ∀ i, atD E i ≤ 9) (A B : Option Addr) (ca cb : Nat) (w : World) (h1 : IntsAt w A D) (h2 : IntsAt w B E) :
    Calls Tryz.prog 116 #[.slice A D.length ca, .slice B E.length cb] w (RAddIs D E w) := by
 have H1 := Lib.hid h1
 have H2 := Lib.hid h2
 have HD9 := Lib.hid hd
 have HE9 := Lib.hid he
 obtain ⟨n, Hn⟩ := name_itV D.length
 obtain ⟨m, Hm⟩ := name_itV E.length
 have hA := Lib.hid (fun (W : World) (hW : Below w.heap.size w W) (i : Nat) (hi : i ≤ 4000000000000) => at_any D A ca i hi W (H1.out.under hW))
 have hB := Lib.hid (fun (W : World) (hW : Below w.heap.size w W) (i : Nat) (hi : i ≤ 4000000000000) => at_any E B cb i hi W (H2.out.under hW))
 rw [Hn.out] at hA hD ⊢
 rw [Hm.out] at hB hE ⊢
 clear h1 h2 hd he
 go_enter Tryz.func116, Tryz.ntmps116
 go_wp2_with fail
 go_loopw [5, 6, 7] (fun s5 s6 s7 wx => ∃ (i c : Nat), i ≤ n + m + 1 ∧ c ≤ 1 ∧ s6 = .int .i64 (c : Nat) ∧ s7 = .int .i64 (i : Nat) ∧ Hid ((n ≤ i → m ≤ i → 0 < c → i ≤ n + m) ∧ ∃ O : List Nat, O.length = i ∧ wx.ownsRow 0 3 1 s5 i (intsV O) ∧ Below w.heap.size w wx ∧ (∀ i, atD O i ≤ 9) ∧ pt (atD O) i + c * bT ^ i = pt (atD D) i + pt (atD E) i ∧ ∀ g, s5.ownBlock = some g → w.heap.size ≤ g)) (fun _ _ s7 _ => n + m + 2 - (intOf s7).toNat)
 case atStart => exact ⟨0, 0, by omega, by omega, rfl, rfl, Lib.hid ⟨fun _ _ h => by omega, [], rfl, World.ownsRow_nil .., Below.refl _ _, fun i => Nat.zero_le _, by simp [pt], fun g hg => by cases hg⟩⟩
 case round =>
  obtain ⟨i, c, hi, hc, rfl, rfl, hM⟩ := hrel
  obtain ⟨hcar, O, hOl, hrow, hB, hO9, hpt, hown⟩ := hM.out
  have HO := Lib.hid (And.intro hOl (And.intro hO9 (And.intro hpt hown)))
  have HROW := Lib.hid hrow
  have HBr := Lib.hid hB
  have HCAR := Lib.hid hcar
  obtain ⟨Ao, co, hs5⟩ := slice_form hrow
  subst hs5
  clear hM hcar hOl hrow hB hO9 hpt hown
  obtain ⟨gb, HGB⟩ := name_itV (decide (i < n ∨ i < m ∨ 0 < c))
  go_upto_region 4 with fail
  go_cut [22] (fun s22 wx => s22 = .bool gb ∧ wx = wr)
  case first =>
   by_cases a0 : i < n
   ·have e1 : (i : Int) < (n : Int) := by omega
    have hg := Lib.hid (show gb = true from by rw [← HGB.out]; exact decide_eq_true (.inl a0))
    clear a0
    go_wp2_with fail
    go_meet
    exact ⟨by rw [hg.out], rfl⟩
   ·have e1 : ¬ (i : Int) < (n : Int) := by omega
    by_cases a1 : i < m
    ·have e2 : (i : Int) < (m : Int) := by omega
     have hg := Lib.hid (show gb = true from by rw [← HGB.out]; exact decide_eq_true (.inr (.inl a1)))
     clear a0 a1
     go_wp2_with fail
     go_meet
     exact ⟨by rw [hg.out], rfl⟩
    ·have e2 : ¬ (i : Int) < (m : Int) := by omega
     by_cases a2 : 0 < c
     ·have e3 : (0 : Int) < (c : Int) := by omega
      have hg := Lib.hid (show gb = true from by rw [← HGB.out]; exact decide_eq_true (.inr (.inr a2)))
      have HA2 := Lib.hid a2
      clear a0 a1 a2
      go_wp2_with fail
      go_meet
      exact ⟨congrArg Value.bool ((decide_eq_true HA2.out).trans hg.out.symm), rfl⟩
     ·have e3 : ¬ (0 : Int) < (c : Int) := by omega
      have hg := Lib.hid (show gb = false from by rw [← HGB.out]; exact decide_eq_false (by omega))
      have HA2 := Lib.hid a2
      clear a0 a1 a2
      go_wp2_with fail
      go_meet
      exact ⟨congrArg Value.bool ((decide_eq_false HA2.out).trans hg.out.symm), rfl⟩
  case rest =>
   obtain ⟨h22, rfl⟩ := hcut
   cases gb with
   | true =>
    subst h22
    have hgo := Lib.hid (of_decide_eq_true HGB.out)
    have hib : i ≤ n + m := by
     have h1 := hgo.out
     have h2 := HCAR.out
     rcases h1 with h1 | h1 | h1
     ·omega
     ·omega
     ·by_cases h3 : n ≤ i
      ·by_cases h4 : m ≤ i
       ·exact h2 h3 h4 h1
       ·omega
      ·omega
    obtain ⟨x, Hx⟩ := name_itV (atD D i)
    obtain ⟨y, Hy⟩ := name_itV (atD E i)
    have hx9 : x ≤ 9 := by rw [← Hx.out]; exact HD9.out i
    have hy9 : y ≤ 9 := by rw [← Hy.out]; exact HE9.out i
    obtain ⟨S1, HS1⟩ := name_itV (x + y)
    obtain ⟨S2, HS2⟩ := name_itV (x + y + c)
    obtain ⟨d, Hd⟩ := name_itV ((x + y + c) % 10)
    obtain ⟨q, Hq⟩ := name_itV ((x + y + c) / 10)
    have hq1 : q ≤ 1 := by rw [← Hq.out]; omega
    have hd9 : d ≤ 9 := by rw [← Hd.out]; omega
    have w1 : IntKind.i64.wrap ((x : Int) + (y : Int)) = (S1 : Int) := by rw [IntWalk.i64_in _ (by omega), ← HS1.out]; rfl
    have w2 : IntKind.i64.wrap ((S1 : Int) + (c : Int)) = (S2 : Int) := by rw [← HS1.out, ← HS2.out, IntWalk.i64_in _ (by omega)]; rfl
    have r1 : Int.tmod (S2 : Int) 10 = (d : Int) := by rw [← Hd.out, ← HS2.out]; rfl
    have r2 : Int.tdiv (S2 : Int) 10 = (q : Int) := by rw [← Hq.out, ← HS2.out]; rfl
    have r3 : (S2 : Int) % 10 = (d : Int) := by rw [← Hd.out, ← HS2.out]; rfl
    have r4 : (S2 : Int) / 10 = (q : Int) := by rw [← Hq.out, ← HS2.out]; rfl
    have w3 : IntKind.i64.wrap (q : Int) = (q : Int) := IntWalk.i64_in _ (by omega)
    have w4 : IntKind.i64.wrap (d : Int) = (d : Int) := IntWalk.i64_in _ (by omega)
    have w5 : IntKind.i64.wrap ((i : Int) + 1) = (i : Int) + 1 := IntWalk.i64_in _ (by omega)
    have hA1 := Lib.hid (hA.out wc HBr.out i (by omega))
    rw [Hx.out] at hA1
    go_wp2_with fail
    refine hA1.out.mono ?_
    rintro e w2' ⟨rfl, q1, hw2⟩
    have HB2 := Lib.hid (show Below w.heap.size w w2' from by rw [hw2]; exact ⟨HBr.out.os, HBr.out.tape, HBr.out.output, HBr.out.size, HBr.out.block⟩)
    have HROW2 := Lib.hid (show w2'.ownsRow 0 3 1 (.slice Ao i co) i (intsV O) from by rw [hw2]; exact HROW.out)
    have hB1 := Lib.hid (hB.out w2' HB2.out i (by omega))
    rw [Hy.out] at hB1
    clear hw2
    go_wp2_with fail
    refine hB1.out.mono ?_
    rintro e w3' ⟨rfl, q2, hw3⟩
    have HB3 := Lib.hid (show Below w.heap.size w w3' from by rw [hw3]; exact ⟨HB2.out.os, HB2.out.tape, HB2.out.output, HB2.out.size, HB2.out.block⟩)
    have HROW3 := Lib.hid (show w3'.ownsRow 0 3 1 (.slice Ao i co) i (intsV O) from by rw [hw3]; exact HROW2.out)
    clear hw3
    go_wp2_with (at_builtin; refine app_new rfl _ _ 71 rfl 0 3 (.int .i64 0) 1 8 Tryz.underlying71 infoInt rfl (by decide) (.slice Ao i co) i (intsV O) rfl HROW3.out (Nat.zero_le _) #[.int .i64 (d : Int)] 1 1 rfl rfl (one_int _ _) (by omega) (by omega) (by decide) ?_; intro g4 cp4 w4' ho4 hg4 hl4; have HO4 := Lib.hid ho4; have HG4 := Lib.hid hg4; have HL4 := Lib.hid hl4; clear ho4 hg4 hl4)
    go_roundw
    case measure => simp [intOf]; omega
    case rel =>
     obtain ⟨k1, k2, k3, k4⟩ := HO.out
     refine ⟨i + 1, q, by omega, hq1, rfl, by go_num, Lib.hid ⟨fun h1 h2 h3 => ?_, O ++ [d], by rw [List.length_append, k1]; rfl, ?_, ?_, fun j => ?_, ?_, fun g hg => ?_⟩⟩
     ·rcases hgo.out with h4 | h4 | h4
      ·omega
      ·omega
      ·by_cases h5 : i < n
       ·omega
       ·by_cases h6 : i < m
        ·omega
        ·have hx0 : x = 0 := by rw [← Hx.out]; exact atD_big (by rw [Hn.out]; omega)
         have hy0 : y = 0 := by rw [← Hy.out]; exact atD_big (by rw [Hm.out]; omega)
         have : q = 0 := by rw [← Hq.out]; omega
         omega
     ·have := HO4.out
      unfold intsV
      rw [List.map_append]
      exact this
     ·exact HB3.out.grown HG4.out HB3.out.size (fun k hk => k4 k hk)
     ·rw [atD_app, k1]
      split
      ·exact k2 j
      ·split
       ·exact hd9
       ·exact Nat.zero_le _
     ·have hp := pt_add (f := atD D) (g := atD E) (o := atD (O ++ [d])) (i := i) (c := c) (by
        rw [← k3, show pt (atD (O ++ [d])) i = pt (atD O) i from by rw [← k1]; exact pt_app]) (by rw [atD_app, if_neg (by omega), if_pos k1.symm, Hx.out, Hy.out]; exact Hd.out.symm)
      rw [Hx.out, Hy.out, show (x + y + c) / bT = q from Hq.out] at hp
      exact hp
     ·injection hg with hg
      rcases HL4.out with h1 | h1
      ·have := k4 _ h1
       have e4 : g4 = g := hg
       omega
      ·have e4 : g4 = g := hg
       have := HB3.out.size
       omega
   | false =>
    subst h22
    have hgo := Lib.hid (of_decide_eq_false HGB.out)
    go_wp2_with fail
    go_ret
    obtain ⟨k1, k2, k3, k4⟩ := HO.out
    have h1 := hgo.out
    refine ⟨O, _, rfl, HBr.out, by rw [k1]; exact HROW.out, k2, ?_, by rw [k1, Hn.out, Hm.out]; omega, k4⟩
    have hc0 : c = 0 := by omega
    rw [hc0, Nat.zero_mul, Nat.add_zero, amt_at (by rw [k1]; exact Nat.le_refl _), amt_at (by rw [Hn.out]; omega), amt_at (by rw [Hm.out]; omega)] at k3
    exact k3
end Go.Proofs.YtijciakkfpjjbaaGreatDoor
namespace Go.Proofs.YtijciakkfpjjbaaGreatDoor
open Go Go.RowKit

theorem pt_low {f : Nat → Nat} {n m : Nat} (h : pt f (n + m) < bT ^ n) : pt f (n + m) = pt f n := by
 induction m with
 | zero => rfl
 | succ m ih =>
  rw [← Nat.add_assoc, pt] at h ⊢
  have h0 : f (n + m) = 0 := by
   rcases Nat.eq_zero_or_pos (f (n + m)) with h1 | h1
   ·exact h1
   ·have h2 : 1 * bT ^ (n + m) ≤ f (n + m) * bT ^ (n + m) := Nat.mul_le_mul_right _ h1
    have h3 : bT ^ n ≤ bT ^ (n + m) := Nat.pow_le_pow_right (by decide) (by omega)
    omega
  rw [h0, Nat.zero_mul, Nat.add_zero] at h ⊢
  exact ih h
theorem amt_lt {D : List Nat} (h : ∀ i, atD D i ≤ 9) : amtD D < bT ^ D.length := pt_lt fun i _ => by have := h i; show _ < 10; omega
/-- A difference, told in a row of its own. -/
def RSubIs (D E : List Nat) (w : World) (e : Ending) (w' : World) : Prop := ∃ (O : List Nat) (s : Value), e = .returned s ∧ Below w.heap.size w w' ∧ w'.ownsRow 0 3 1 s O.length (intsV O) ∧ (∀ i, atD O i ≤ 9) ∧ amtD O = amtD D - amtD E ∧ O.length = D.length ∧ ∀ g, s.ownBlock = some g → w.heap.size ≤ g
set_option maxRecDepth 100000 in
set_option maxHeartbeats 4000000 in
theorem rsub_any (D E : List Nat) (hD : D.length ≤ 10000000) (_hE : E.length ≤ 10000000) (hd : ∀ i, atD D i ≤ 9) (he : ∀ i, atD E i ≤ 9) (hle : amtD E ≤ amtD D) (A B : Option Addr) (ca cb : Nat) (w : World) (h1 : IntsAt w A D) (h2 : IntsAt w B E) :
    Calls Tryz.prog 118 #[.slice A D.length ca, .slice B E.length cb] w (RSubIs D E w) := by
 have H1 := Lib.hid h1
 have H2 := Lib.hid h2
 have HD9 := Lib.hid hd
 have HE9 := Lib.hid he
 have HEN := Lib.hid (show pt (atD E) D.length = amtD E from by
  have h3 : pt (atD E) (D.length + E.length) = amtD E := amt_at (by omega)
  rw [← h3]
  exact (pt_low (by rw [h3]; exact Nat.lt_of_le_of_lt hle (amt_lt hd))).symm)
 obtain ⟨n, Hn⟩ := name_itV D.length
 obtain ⟨m, Hm⟩ := name_itV E.length
 have hB := Lib.hid (fun (W : World) (hW : Below w.heap.size w W) (i : Nat) (hi : i ≤ 4000000000000) => at_any E B cb i hi W (H2.out.under hW))
 have HAX := Lib.hid (fun (W : World) (hW : Below w.heap.size w W) => H1.out.under hW)
 rw [Hn.out] at hD HEN ⊢
 rw [Hm.out] at hB ⊢
 clear h1 h2 hd he
 go_enter Tryz.func118, Tryz.ntmps118
 go_wp2_with fail
 go_loopw [5, 6, 7] (fun s5 s6 s7 wx => ∃ (i c : Nat), i ≤ n ∧ c ≤ 1 ∧ s6 = .int .i64 (c : Nat) ∧ s7 = .int .i64 (i : Nat) ∧ Hid (∃ O : List Nat, O.length = i ∧ wx.ownsRow 0 3 1 s5 i (intsV O) ∧ Below w.heap.size w wx ∧ (∀ i, atD O i ≤ 9) ∧ pt (atD O) i + pt (atD E) i = pt (atD D) i + c * bT ^ i ∧ ∀ g, s5.ownBlock = some g → w.heap.size ≤ g)) (fun _ _ s7 _ => n - (intOf s7).toNat)
 case atStart => exact ⟨0, 0, by omega, by omega, rfl, rfl, Lib.hid ⟨[], rfl, World.ownsRow_nil .., Below.refl _ _, fun i => Nat.zero_le _, by simp [pt], fun g hg => by cases hg⟩⟩
 case round =>
  obtain ⟨i, c, hi, hc, rfl, rfl, hM⟩ := hrel
  obtain ⟨O, hOl, hrow, hB0, hO9, hpt, hown⟩ := hM.out
  have HO := Lib.hid (And.intro hOl (And.intro hO9 (And.intro hpt hown)))
  have HROW := Lib.hid hrow
  have HBr := Lib.hid hB0
  obtain ⟨Ao, co, hs5⟩ := slice_form hrow
  subst hs5
  clear hM hOl hrow hB0 hO9 hpt hown
  by_cases hlt : i < n
  ·obtain ⟨x, hx⟩ : ∃ x, D[i]? = some x := ⟨D[i]'(by rw [Hn.out]; exact hlt), List.getElem?_eq_getElem _⟩
   obtain ⟨ad, rfl, _, q0⟩ := HAX.out wr HBr.out i x hx
   have Hx := Lib.hid (show atD D i = x from by unfold atD; rw [hx]; rfl)
   obtain ⟨y, Hy⟩ := name_itV (atD E i)
   have hx9 : x ≤ 9 := by rw [← Hx.out]; exact HD9.out i
   have hy9 : y ≤ 9 := by rw [← Hy.out]; exact HE9.out i
   obtain ⟨S1, HS1⟩ : ∃ S1 : Int, Hid ((x : Int) - (y : Int) = S1) := ⟨_, Lib.hid rfl⟩
   obtain ⟨S2, HS2⟩ : ∃ S2 : Int, Hid (S1 - (c : Int) = S2) := ⟨_, Lib.hid rfl⟩
   have w1 : IntKind.i64.wrap ((x : Int) - (y : Int)) = S1 := by rw [IntWalk.i64_in _ (by omega)]; exact HS1.out
   have w2 : IntKind.i64.wrap (S1 - (c : Int)) = S2 := by rw [IntWalk.i64_in _ (by have := HS1.out; omega)]; exact HS2.out
   have w5 : IntKind.i64.wrap ((i : Int) + 1) = (i : Int) + 1 := IntWalk.i64_in _ (by omega)
   have hB1 := Lib.hid (fun (q : Nat) => hB.out (wr.drewN q) ⟨HBr.out.os, HBr.out.tape, HBr.out.output, HBr.out.size, HBr.out.block⟩ i (by omega))
   rw [Hy.out] at hB1
   have e1 : (0 : Int) ≤ i := by omega
   have e2 : (i : Int) < n := by omega
   obtain ⟨d, Hd⟩ := name_itV ((x + 10 - y - c) % 10)
   obtain ⟨q, Hq⟩ := name_itV (1 - (x + 10 - y - c) / 10)
   have HSUM := Lib.hid (show S2 = (x : Int) - y - c from by rw [← HS2.out, ← HS1.out])
   clear hx
   have HNEXT := Lib.hid (fun (W W4 : World) (g4 cp4 : Nat) (hW : Below w.heap.size w W) (ho : W4.ownsRow 0 3 1 (.slice (some ⟨g4, 0, none⟩) (i + 1) cp4) (i + 1) (intsV O ++ #[Value.int .i64 (d : Int)].toList)) (hg : W.grownBy W4 (Value.slice Ao i co).ownBlock) (hl : (Value.slice Ao i co).ownBlock = some g4 ∨ W.heap.size ≤ g4) => (show ∃ O : List Nat, O.length = i + 1 ∧ W4.ownsRow 0 3 1 (.slice (some ⟨g4, 0, none⟩) (i + 1) cp4) (i + 1) (intsV O) ∧ Below w.heap.size w W4 ∧ (∀ i, atD O i ≤ 9) ∧ pt (atD O) (i + 1) + pt (atD E) (i + 1) = pt (atD D) (i + 1) + q * bT ^ (i + 1) ∧ ∀ g, (Value.slice (some ⟨g4, 0, none⟩) (i + 1) cp4).ownBlock = some g → w.heap.size ≤ g from by
    obtain ⟨k1, k2, k3, k4⟩ := HO.out
    refine ⟨O ++ [d], by rw [List.length_append, k1]; rfl, ?_, hW.grown hg hW.size (fun k hk => k4 k hk), fun j => ?_, ?_, fun g hg2 => ?_⟩
    ·unfold intsV
     rw [List.map_append]
     exact ho
    ·rw [atD_app, k1]
     split
     ·exact k2 j
     ·split
      ·rw [← Hd.out]; omega
      ·exact Nat.zero_le _
    ·have hp := (pt_sub (f := atD D) (g := atD E) (o := atD (O ++ [d])) (i := i) (b := c) (by
       rw [← k3, show pt (atD (O ++ [d])) i = pt (atD O) i from by rw [← k1]; exact pt_app]) (by rw [Hy.out]; show y < 10; omega) hc (by rw [Hx.out]; show x < 10; omega) (by rw [atD_app, if_neg (by omega), if_pos k1.symm, Hx.out, Hy.out]; exact Hd.out.symm)).1
     rw [Hx.out, Hy.out, show 1 - (x + bT - y - c) / bT = q from Hq.out] at hp
     exact hp
    ·have e4 : g4 = g := by injection hg2
     rcases hl with h1 | h1
     ·have := k4 _ h1
      omega
     ·have := hW.size
      omega))
   by_cases hneg : S2 < 0
   ·have hdv : S2 + 10 = (d : Int) := by have h1 := HSUM.out; rw [← Hd.out]; omega
    have hqv : q = 1 := by have h1 := HSUM.out; rw [← Hq.out]; omega
    have HQ := Lib.hid hqv
    have w6 : IntKind.i64.wrap (S2 + 10) = (d : Int) := by rw [IntWalk.i64_in _ (by have h1 := HSUM.out; omega)]; exact hdv
    clear hdv hqv
    go_upto_region 6 with fail
    go_quiet ((go_at_call 156; exact Calls.quiet_of (hB1.out _)))
    have HBQ := Lib.hid (show Below w.heap.size w (wr.drewN nq) from ⟨HBr.out.os, HBr.out.tape, HBr.out.output, HBr.out.size, HBr.out.block⟩)
    have HRQ := Lib.hid (show (wr.drewN nq).ownsRow 0 3 1 (.slice Ao i co) i (intsV O) from HROW.out)
    obtain ⟨wq, Hwq⟩ := name_itV (wr.drewN nq)
    rw [Hwq.out] at HBQ HRQ ⊢
    clear q0
    go_wp2_with (at_builtin; refine app_new rfl _ _ 71 rfl 0 3 (.int .i64 0) 1 8 Tryz.underlying71 infoInt rfl (by decide) (.slice Ao i co) i (intsV O) rfl HRQ.out (Nat.zero_le _) #[.int .i64 (d : Int)] 1 1 rfl rfl (one_int _ _) (by omega) (by omega) (by decide) ?_; intro g4 cp4 w4' ho4 hg4 hl4; have HO4 := Lib.hid ho4; have HG4 := Lib.hid hg4; have HL4 := Lib.hid hl4; clear ho4 hg4 hl4)
    go_roundw
    case measure => simp [intOf]; omega
    case rel =>
     have h9 := HNEXT.out wq w4' g4 cp4 HBQ.out HO4.out HG4.out HL4.out
     rw [HQ.out] at h9
     exact ⟨i + 1, 1, by omega, by omega, rfl, by go_num, Lib.hid h9⟩
   ·have hdv : S2 = (d : Int) := by have h1 := HSUM.out; rw [← Hd.out]; omega
    have hqv : q = 0 := by have h1 := HSUM.out; rw [← Hq.out]; omega
    have HQ := Lib.hid hqv
    have HDV := Lib.hid hdv
    clear hdv hqv
    go_upto_region 6 with fail
    go_quiet ((go_at_call 156; exact Calls.quiet_of (hB1.out _)))
    have HBQ := Lib.hid (show Below w.heap.size w (wr.drewN nq) from ⟨HBr.out.os, HBr.out.tape, HBr.out.output, HBr.out.size, HBr.out.block⟩)
    have HRQ := Lib.hid (show (wr.drewN nq).ownsRow 0 3 1 (.slice Ao i co) i (intsV O) from HROW.out)
    obtain ⟨wq, Hwq⟩ := name_itV (wr.drewN nq)
    rw [Hwq.out] at HBQ HRQ ⊢
    clear q0
    go_wp2_with (at_builtin; refine app_new rfl _ _ 71 rfl 0 3 (.int .i64 0) 1 8 Tryz.underlying71 infoInt rfl (by decide) (.slice Ao i co) i (intsV O) rfl HRQ.out (Nat.zero_le _) #[.int .i64 S2] 1 1 rfl rfl (one_int _ _) (by omega) (by omega) (by decide) ?_; intro g4 cp4 w4' ho4 hg4 hl4; have HO4 := Lib.hid ho4; have HG4 := Lib.hid hg4; have HL4 := Lib.hid hl4; clear ho4 hg4 hl4)
    go_roundw
    case measure => simp [intOf]; omega
    case rel =>
     have h9 := HNEXT.out wq w4' g4 cp4 HBQ.out (by rw [← HDV.out]; exact HO4.out) HG4.out HL4.out
     rw [HQ.out] at h9
     exact ⟨i + 1, 0, by omega, by omega, rfl, by go_num, Lib.hid h9⟩
  ·have hin : i = n := by omega
   have HIN := Lib.hid hin
   clear hin
   go_wp2_with fail
   go_ret
   obtain ⟨k1, k2, k3, k4⟩ := HO.out
   refine ⟨O, _, rfl, HBr.out, by rw [k1]; exact HROW.out, k2, ?_, by rw [k1, Hn.out]; exact HIN.out, k4⟩
   have hAD : pt (atD D) n = amtD D := amt_at (by rw [Hn.out]; exact Nat.le_refl _)
   have hAO : pt (atD O) n = amtD O := amt_at (by rw [k1, HIN.out]; exact Nat.le_refl _)
   rw [HIN.out] at k3
   have hend := pt_sub_end k3 (fun j _ => by have := k2 j; show _ < 10; omega) (by rw [HEN.out, hAD]; exact hle)
   rw [hAO, hAD, HEN.out] at hend
   exact hend
end Go.Proofs.YtijciakkfpjjbaaGreatDoor
namespace Go.Proofs.YtijciakkfpjjbaaGreatDoor
open Go Go.RowKit

theorem pt_shift {f : Nat → Nat} {k : Nat} : ∀ n, pt (fun i => if i < k then 0 else f (i - k)) (k + n) = pt f n * bT ^ k := by
 intro n
 induction n with
 | zero =>
  rw [Nat.add_zero, pt, Nat.zero_mul]
  have : pt (fun i => if i < k then 0 else f (i - k)) k = pt (fun _ => 0) k := pt_congr fun i hi => if_pos hi
  rw [this]
  clear this
  induction k with
  | zero => rfl
  | succ k ih => rw [pt, ih, Nat.zero_mul]
 | succ n ih =>
  rw [← Nat.add_assoc, pt, ih, if_neg (by omega), Nat.add_sub_cancel_left, pt, Nat.add_mul, Nat.mul_assoc, ← Nat.pow_add, Nat.add_comm n k]
theorem atD_pad (D : List Nat) (k i : Nat) : atD (List.replicate k 0 ++ D) i = if i < k then 0 else atD D (i - k) := by
 unfold atD
 by_cases h : i < k
 ·rw [if_pos h, List.getElem?_append_left (by rw [List.length_replicate]; exact h), List.getElem?_replicate, if_pos h]; rfl
 ·rw [if_neg h, List.getElem?_append_right (by rw [List.length_replicate]; omega), List.length_replicate]
theorem amt_pad (D : List Nat) (k : Nat) : amtD (List.replicate k 0 ++ D) = amtD D * bT ^ k := by
 unfold amtD
 rw [List.length_append, List.length_replicate, ← pt_shift]
 exact pt_congr fun i _ => atD_pad D k i
/-- Digits with so many noughts ahead, in a row of their own. -/
def ScaledIs (D : List Nat) (k : Nat) (w : World) (e : Ending) (w' : World) : Prop := ∃ s, e = .returned s ∧ Below w.heap.size w w' ∧ w'.ownsRow 0 3 1 s (k + D.length) (intsV (List.replicate k 0 ++ D)) ∧ ∀ g, s.ownBlock = some g → w.heap.size ≤ g
set_option maxRecDepth 100000 in
set_option maxHeartbeats 4000000 in
theorem scaled_any (neg : Bool) (D : List Nat) (S k : Nat) (hD0 : 0 < D.length) (hD : D.length ≤ 1000000) (_hS : S ≤ 1000000) (hk : k ≤ 1000000) (A : Option Addr) (cap : Nat) (w : World) (h : IntsAt w A D) :
    Calls Tryz.prog 115 #[.agg #[.bool neg, .slice A D.length cap, .int .i64 (S : Int)], .int .i64 ((S + k : Nat) : Int)] w (ScaledIs D k w) := by
 obtain ⟨n, Hn⟩ := name_itV D.length
 obtain ⟨z, Hz⟩ := name_itV w.heap.size
 obtain ⟨ad, hA, _, _⟩ := h 0 _ (List.getElem?_eq_getElem hD0)
 subst hA
 have hcell : ∀ i u, (intsV D)[i]? = some u → w.cell? (ad.add i) = some u ∧ (ad.add i).block < w.heap.size := fun i u hu => by
  unfold intsV at hu
  rw [List.getElem?_map] at hu
  cases hx : D[i]? with
  | none => rw [hx] at hu; cases hu
  | some x =>
   rw [hx] at hu
   simp only [Option.map_some, Option.some.injEq] at hu
   obtain ⟨ad', hA, h1, h2⟩ := h i x hx
   obtain rfl : ad = ad' := by injection hA
   subst hu
   exact ⟨h2, h1⟩
 rw [Hn.out] at hD0 hD ⊢
 obtain ⟨w1, HW1⟩ := name_itV (w.alloc (.cells #[.bool neg, .slice (some ad) n cap, .int .i64 (S : Int)] 117))
 have HB1 := Lib.hid (show Below w.heap.size w w1 from by rw [← HW1.out]; exact (Below.refl _ _).alloc (Nat.le_refl _) _)
 have HK1 := Lib.hid (show w1.heap[z]? = some (.cells #[.bool neg, .slice (some ad) n cap, .int .i64 (S : Int)] 117 (0, 0)) from by rw [← HW1.out, ← Hz.out]; exact heap_alloc_new w _)
 obtain ⟨i0, hi0, hz0, hz1, hz2⟩ := info_parts infoInt
 obtain ⟨wm, hrun, hrow, hgrow⟩ := run_makeSlice_full (P := Tryz.prog) (w := w1) z 71 3 i0 (.int .i64 0) 1 Tryz.underlying71 hi0 hz0 hz1 .i64 .i64 k (by omega) (by rw [hz2]; omega) (by unfold maxLen; omega) (by rw [← Hz.out]; exact HB1.out.size)
 have HRM := Lib.hid (show wm.ownsRow z 3 1 (.slice (some ⟨w1.heap.size, 0, none⟩) k k) k (List.replicate k (Value.int .i64 0)) from by
  have h1 := hrow
  rw [Nat.mul_one, show (Value.int IntKind.i64 0).cells = #[Value.int IntKind.i64 0] from rfl, toList_madeCells_one] at h1
  exact h1)
 have HBM := Lib.hid (show Below w1.heap.size w1 wm from (Below.refl _ w1).grown hgrow (Nat.le_refl _) (fun k hk => by cases hk))
 have HCELL := Lib.hid (fun (j : Nat) (u : Value) (hu : (intsV D)[j]? = some u) => (show wm.cell? (ad.add j) = some u from (HBM.out.cell (Nat.lt_of_lt_of_le (hcell j u hu).2 HB1.out.size)).trans ((HB1.out.cell (hcell j u hu).2).trans (hcell j u hu).1)))
 have HZM := Lib.hid ((HBM.out.block z (blk_lt HK1.out)).trans HK1.out)
 obtain ⟨zm, Hzm⟩ := name_itV w1.heap.size
 rw [Hzm.out] at hrun HRM
 have c2 : w1.cell? ⟨z, 2, none⟩ = some (.int .i64 (S : Int)) := Lib.cell_of_heap HK1.out 2
 have d1 : wm.cell? ⟨z, 1, none⟩ = some (.slice (some ad) n cap) := Lib.cell_of_heap HZM.out 1
 have w0 : IntKind.i64.wrap (((S + k : Nat) : Int) - (S : Int)) = (k : Int) := by rw [IntWalk.i64_in _ (by omega)]; omega
 have w0' : IntKind.i64.wrap ((S : Int) + (k : Int) - (S : Int)) = (k : Int) := by rw [IntWalk.i64_in _ (by omega)]; omega
 clear hrow hgrow hcell h
 go_enter Tryz.func115, Tryz.ntmps115
 go_upto_region 1 with fail
 rw [HW1.out, Hz.out]
 go_upto_region 2 with fail
 clear c2 hrun
 go_wp2_with (at_builtin; refine wpList_append_own _ rfl _ _ 71 rfl z 3 i0 (.int .i64 0) 1 8 Tryz.underlying71 hi0 hz0 hz1 hz2 rfl (by decide) (.slice (some ⟨zm, 0, none⟩) k k) k (List.replicate k (Value.int .i64 0)) rfl HRM.out ad n cap (intsV D) rfl (by unfold intsV; rw [List.length_map, Hn.out, Nat.mul_one]) HCELL.out (fun u hu => by unfold intsV at hu; obtain ⟨x, _, rfl⟩ := List.mem_map.1 hu; rfl) (by unfold maxLen; omega) (by omega) (by rw [← Hz.out]; exact Nat.le_trans HB1.out.size HBM.out.size) ?_; intro v' w4 ho4 hg4 _; have HO4 := Lib.hid ho4; have HG4 := Lib.hid hg4; clear ho4 hg4)
 go_ret
 have hzw : w.heap.size ≤ zm := by rw [← Hzm.out]; exact HB1.out.size
 refine ⟨v', rfl, ?_, ?_, ?_⟩
 ·have h1 := HB1.out.trans (HBM.out.mono HB1.out.size)
  exact h1.grown HG4.out h1.size (fun g hg => by simp [Value.ownBlock] at hg; omega)
 ·rw [Hn.out]
  have h1 := own_base HO4.out (Nat.zero_le _)
  unfold intsV at h1 ⊢
  rw [List.map_append, List.map_replicate]
  exact h1
 ·exact fun g hg => by rw [Hz.out]; exact (HO4.out.lt g hg).1
end Go.Proofs.YtijciakkfpjjbaaGreatDoor
namespace Go.Proofs.YtijciakkfpjjbaaGreatDoor
open Go Go.RowKit

theorem below_of_dr {w w' : World} (h : Below w.drew.heap.size w.drew w') : Below w.heap.size w w' := ⟨h.os, h.tape, h.output, h.size, h.block⟩
theorem below_dN {b : Nat} {w w' : World} (h : Below b w w') (m : Nat) : Below b w (w'.drewN m) := ⟨h.os, h.tape, h.output, h.size, h.block⟩
/-- An amount with its sign. -/
def sgV (b : Bool) (n : Nat) : Int := cond b (-(n : Int)) (n : Int)
theorem nine_pad {D : List Nat} (h : ∀ i, atD D i ≤ 9) (k : Nat) : ∀ i, atD (List.replicate k 0 ++ D) i ≤ 9 := fun i => by
 rw [atD_pad]
 split
 ·exact Nat.zero_le _
 ·exact h _
theorem ints_of_own {w : World} {s : Value} {O : List Nat} (h : w.ownsRow 0 3 1 s O.length (intsV O)) : ∃ A cap, s = .slice A O.length cap ∧ IntsAt w A O := by
 obtain ⟨A, cap, rfl⟩ := slice_form h
 exact ⟨A, cap, rfl, ints_own (D := O) (cp := cap) h⟩
def RPlusIs (n1 : Bool) (V1 : Nat) (n2 : Bool) (V2 : Nat) (w : World) (e : Ending) (w' : World) : Prop :=
 ∃ (ng : Bool) (O : List Nat) (s : Value) (sc : Int), e = .returned (.agg #[.bool ng, s, .int .i64 sc]) ∧ Below w.heap.size w w' ∧ w'.ownsRow 0 3 1 s O.length (intsV O) ∧ (∀ i, atD O i ≤ 9) ∧ O.length ≤ 10000000 ∧ sgV ng (amtD O) = sgV n1 V1 + sgV n2 V2
set_option maxRecDepth 100000 in
set_option maxHeartbeats 8000000 in
theorem rplus_any (n1 n2 : Bool) (D E : List Nat) (S1 S2 : Nat) (hD0 : 0 < D.length) (hE0 : 0 < E.length) (hD : D.length ≤ 100000) (hE : E.length ≤ 100000) (hS1 : S1 ≤ 100000) (hS2 : S2 ≤ 100000) (hd : ∀ i, atD D i ≤ 9) (he : ∀ i, atD E i ≤ 9) (A B : Option Addr) (ca cb : Nat) (w : World) (h1 : IntsAt w A D) (h2 : IntsAt w B E) :
    Calls Tryz.prog 80 #[.agg #[.bool n1, .slice A D.length ca, .int .i64 (S1 : Int)], .agg #[.bool n2, .slice B E.length cb, .int .i64 (S2 : Int)]] w (RPlusIs n1 (amtD D * bT ^ (max S1 S2 - S1)) n2 (amtD E * bT ^ (max S1 S2 - S2)) w) := by
 have H1 := Lib.hid h1
 have H2 := Lib.hid h2
 have HD9 := Lib.hid hd
 have HE9 := Lib.hid he
 obtain ⟨sc, Hsc⟩ := name_itV (max S1 S2)
 obtain ⟨k1, Hk1⟩ := name_itV (sc - S1)
 obtain ⟨k2, Hk2⟩ := name_itV (sc - S2)
 rw [Hsc.out, Hk1.out, Hk2.out]
 have hsc1 := Lib.hid (show sc = S1 + k1 from by rw [← Hk1.out]; have : S1 ≤ sc := by rw [← Hsc.out]; exact Nat.le_max_left _ _
                                                 omega)
 have hsc2 := Lib.hid (show sc = S2 + k2 from by rw [← Hk2.out]; have : S2 ≤ sc := by rw [← Hsc.out]; exact Nat.le_max_right _ _
                                                 omega)
 have hscl : sc ≤ 100000 := by rw [← Hsc.out]; exact Nat.max_le.2 ⟨hS1, hS2⟩
 have hk1 : k1 ≤ 100000 := by have := hsc1.out; omega
 have hk2 : k2 ≤ 100000 := by have := hsc2.out; omega
 have hsA := Lib.hid (fun (W : World) (hW : Below w.heap.size w W) => scaled_any n1 D S1 k1 hD0 (by omega) (by omega) (by omega) A ca W (H1.out.under hW))
 have hsB := Lib.hid (fun (W : World) (hW : Below w.heap.size w W) => scaled_any n2 E S2 k2 hE0 (by omega) (by omega) (by omega) B cb W (H2.out.under hW))
 rw [← hsc1.out] at hsA
 rw [← hsc2.out] at hsB
 obtain ⟨n, Hn⟩ := name_itV D.length
 obtain ⟨m, Hm⟩ := name_itV E.length
 rw [Hn.out] at hsA hD ⊢
 rw [Hm.out] at hsB hE ⊢
 obtain ⟨z, Hz⟩ := name_itV w.heap.size
 obtain ⟨w1, HW1⟩ := name_itV (((w.alloc (.cells #[.bool n1, .slice A n ca, .int .i64 (S1 : Int)] 117)).alloc (.cells #[.bool n2, .slice B m cb, .int .i64 (S2 : Int)] 117)).alloc (.cells #[.bool false, .slice none 0 0, .int .i64 0] 117))
 have HB1 := Lib.hid (show Below w.heap.size w w1 from by rw [← HW1.out]; exact (two_new w _ _).alloc (by simp; omega) _)
 have HX1 := Lib.hid (show w1.heap[z]? = some (.cells #[.bool n1, .slice A n ca, .int .i64 (S1 : Int)] 117 (0, 0)) from by
  rw [← HW1.out, ← Hz.out, Below.heap_alloc _ _ _ (by simp; omega), Below.heap_alloc _ _ _ (by simp)]
  exact heap_alloc_new w _)
 have HY1 := Lib.hid (show w1.heap[z + 1]? = some (.cells #[.bool n2, .slice B m cb, .int .i64 (S2 : Int)] 117 (0, 0)) from by
  rw [← HW1.out, ← Hz.out, Below.heap_alloc _ _ _ (by simp)]
  have := heap_alloc_new (w.alloc (.cells #[.bool n1, .slice A n ca, .int .i64 (S1 : Int)] 117)) (.cells #[.bool n2, .slice B m cb, .int .i64 (S2 : Int)] 117)
  simpa using this)
 have HR1 := Lib.hid (show w1.heap[z + 2]? = some (.cells #[.bool false, .slice none 0 0, .int .i64 0] 117 (0, 0)) from by
  rw [← HW1.out, ← Hz.out]
  have := heap_alloc_new ((w.alloc (.cells #[.bool n1, .slice A n ca, .int .i64 (S1 : Int)] 117)).alloc (.cells #[.bool n2, .slice B m cb, .int .i64 (S2 : Int)] 117)) (.cells #[.bool false, .slice none 0 0, .int .i64 0] 117)
  simpa using this)
 have HBX := Lib.hid (fun (W : World) (hW : Below w1.heap.size w1 W) => And.intro ((hW.block z (blk_lt HX1.out)).trans HX1.out) (And.intro ((hW.block (z + 1) (blk_lt HY1.out)).trans HY1.out) ((hW.block (z + 2) (blk_lt HR1.out)).trans HR1.out)))
 have x0 : w1.cell? ⟨z, 0, none⟩ = some (.bool n1) := Lib.cell_of_heap HX1.out 0
 have x1 : w1.cell? ⟨z, 1, none⟩ = some (.slice A n ca) := Lib.cell_of_heap HX1.out 1
 have x2 : w1.cell? ⟨z, 2, none⟩ = some (.int .i64 (S1 : Int)) := Lib.cell_of_heap HX1.out 2
 have y2 : w1.cell? ⟨z + 1, 2, none⟩ = some (.int .i64 (S2 : Int)) := Lib.cell_of_heap HY1.out 2
 clear h1 h2 hd he
 go_enter Tryz.func80, Tryz.ntmps80
 go_upto_region 1 with fail
 rw [HW1.out, Hz.out]
 go_upto_if 13 with fail
 go_cut [5] (fun s5 wx => s5 = .int .i64 (sc : Int) ∧ wx = w1)
 case first =>
  by_cases hlt : S1 < S2
  ·have e1 : (S1 : Int) < (S2 : Int) := by omega
   have hm := Lib.hid (show (S2 : Int) = (sc : Int) from by rw [← Hsc.out, Nat.max_eq_right (by omega)])
   clear hlt
   go_wp2_with fail
   go_meet
   exact ⟨by rw [hm.out], rfl⟩
  ·have e1 : ¬ (S1 : Int) < (S2 : Int) := by omega
   have hm := Lib.hid (show (S1 : Int) = (sc : Int) from by rw [← Hsc.out, Nat.max_eq_left (by omega)])
   clear hlt
   go_wp2_with fail
   go_meet
   exact ⟨by rw [hm.out], rfl⟩
 case rest =>
  obtain ⟨h5, rfl⟩ := hcut
  subst h5
  go_wp2_with fail
  refine (hsA.out wc HB1.out).mono ?_
  rintro e w3 ⟨s6, rfl, hb3, ho3, _⟩
  obtain ⟨X, HX⟩ := name_itV (List.replicate k1 0 ++ D)
  have hXl : X.length = k1 + D.length := by rw [← HX.out, List.length_append, List.length_replicate]
  rw [HX.out, ← hXl] at ho3
  obtain ⟨A6, c6, rfl, hi3⟩ := ints_of_own ho3
  have HXL := Lib.hid (show X.length ≤ 200000 from by rw [hXl, Hn.out]; omega)
  have HXA := Lib.hid (show amtD X = amtD D * bT ^ k1 from by rw [← HX.out]; exact amt_pad D k1)
  have HX9 := Lib.hid (show ∀ i, atD X i ≤ 9 from by rw [← HX.out]; exact nine_pad HD9.out k1)
  have HB3 := Lib.hid hb3
  have HI3 := Lib.hid hi3
  have hy := HBX.out w3 hb3
  have y0 : w3.cell? ⟨z + 1, 0, none⟩ = some (.bool n2) := Lib.cell_of_heap hy.2.1 0
  have y1 : w3.cell? ⟨z + 1, 1, none⟩ = some (.slice B m cb) := Lib.cell_of_heap hy.2.1 1
  have y2' : w3.cell? ⟨z + 1, 2, none⟩ = some (.int .i64 (S2 : Int)) := Lib.cell_of_heap hy.2.1 2
  clear hb3 ho3 hi3 hXl hy x0 x1 x2 y2
  go_wp2_with fail
  refine (hsB.out w3 (HB1.out.trans (HB3.out.mono HB1.out.size))).mono ?_
  rintro e w4 ⟨s7, rfl, hb4, ho4, _⟩
  obtain ⟨Y, HY⟩ := name_itV (List.replicate k2 0 ++ E)
  have hYl : Y.length = k2 + E.length := by rw [← HY.out, List.length_append, List.length_replicate]
  rw [HY.out, ← hYl] at ho4
  obtain ⟨A8, c8, rfl, hi4⟩ := ints_of_own ho4
  have HYL := Lib.hid (show Y.length ≤ 200000 from by rw [hYl, Hm.out]; omega)
  have HYA := Lib.hid (show amtD Y = amtD E * bT ^ k2 from by rw [← HY.out]; exact amt_pad E k2)
  have HY9 := Lib.hid (show ∀ i, atD Y i ≤ 9 from by rw [← HY.out]; exact nine_pad HE9.out k2)
  have HB4 := Lib.hid (HB3.out.trans (hb4.mono HB3.out.size))
  have HIX := Lib.hid (HI3.out.under hb4)
  have HIY := Lib.hid hi4
  have hy := HBX.out w4 HB4.out
  have u0 : w4.cell? ⟨z, 0, none⟩ = some (.bool n1) := Lib.cell_of_heap hy.1 0
  have v0 : w4.cell? ⟨z + 1, 0, none⟩ = some (.bool n2) := Lib.cell_of_heap hy.2.1 0
  clear hb4 ho4 hi4 hYl hy y0 y1 y2'
  by_cases hnn : n1 = n2
  ·subst hnn
   have t1 : (n1 == n1) = true := beq_self_eq_true _
   have hadd := Lib.hid (radd_any X Y (by have := HXL.out; omega) (by have := HYL.out; omega) HX9.out HY9.out A6 A8 c6 c8 w4.drew HIX.out HIY.out)
   have s1 := Lib.hid (show w4.drew.cell? ⟨z, 0, none⟩ = some (.bool n1) from u0)
   go_upto_region 7 with fail
   go_region_held3 (fun W' => W'.cell? ⟨z, 0, none⟩ = some (.bool n1)) (first | exact s1.out | exact s2.out | exact s3.out | (trace_state; fail))
    (first
     | (go_at_call 116; (with_reducible refine hadd.out.mono ?_); rintro e w7 ⟨O, s7, rfl, hb7, ho7, h97, ha7, hl7, _⟩; obtain ⟨A7, c7, rfl⟩ := slice_form ho7; obtain ⟨lO, HlO⟩ := name_itV O.length; rw [HlO.out] at ho7 ⊢; have HB7 := Lib.hid (show Below wc.heap.size wc w7 from HB4.out.trans ((below_of_dr hb7).mono HB4.out.size)); have HO7 := Lib.hid ho7; have H97 := Lib.hid h97; have HA7 := Lib.hid ha7; have HL7 := Lib.hid hl7; have HR7 := Lib.hid (HBX.out w7 HB7.out); have s2 := Lib.hid (show w7.cell? ⟨z, 0, none⟩ = some (.bool n1) from Lib.cell_of_heap HR7.out.1 0); have q0 : w7.cell? ⟨z + 1 + 1, 0, none⟩ = some (.bool false) := Lib.cell_of_heap HR7.out.2.2 0; have q1 : w7.cell? ⟨z + 1 + 1, 1, none⟩ = some (.slice none 0 0) := Lib.cell_of_heap HR7.out.2.2 1; have q2 : w7.cell? ⟨z + 1 + 1, 2, none⟩ = some (.int .i64 0) := Lib.cell_of_heap HR7.out.2.2 2; have f0 : w7.frozen? ⟨z + 1 + 1, 0, none⟩ = false := Lib.frozen_of_heap HR7.out.2.2 0; have f1 : w7.frozen? ⟨z + 1 + 1, 1, none⟩ = false := Lib.frozen_of_heap HR7.out.2.2 1; have f2 : w7.frozen? ⟨z + 1 + 1, 2, none⟩ = false := Lib.frozen_of_heap HR7.out.2.2 2; have s3 := Lib.hid (show (((w7.setCell ⟨z + 1 + 1, 0, none⟩ (.bool n1)).setCell ⟨z + 1 + 1, 1, none⟩ (.slice A7 lO c7)).setCell ⟨z + 1 + 1, 2, none⟩ (.int .i64 (sc : Int))).cell? ⟨z, 0, none⟩ = some (.bool n1) from by rw [World.cell?_setCell_far _ _ _ _ (by show z + 1 + 1 ≠ z; omega), World.cell?_setCell_far _ _ _ _ (by show z + 1 + 1 ≠ z; omega), World.cell?_setCell_far _ _ _ _ (by show z + 1 + 1 ≠ z; omega)]; exact s2.out); clear hb7 ho7 h97 ha7 hl7))
   have g1 := heap_setCell_same _ (z + 1 + 1) 2 _ _ (.int .i64 (sc : Int)) (heap_setCell_same _ (z + 1 + 1) 1 _ _ (.slice A7 lO c7) (heap_setCell_same _ (z + 1 + 1) 0 _ _ (.bool n1) HR7.out.2.2))
   have ht := ((((Turn.refl (fun b => b = z + 2) w7).setCell (p := ⟨z + 1 + 1, 0, none⟩) (.inr rfl) (.bool n1)).setCell (p := ⟨z + 1 + 1, 1, none⟩) (.inr rfl) (.slice A7 lO c7)).setCell (p := ⟨z + 1 + 1, 2, none⟩) (.inr rfl) (.int .i64 (sc : Int)))
   obtain ⟨W9, HW9⟩ := name_itV (((w7.setCell ⟨z + 1 + 1, 0, none⟩ (.bool n1)).setCell ⟨z + 1 + 1, 1, none⟩ (.slice A7 lO c7)).setCell ⟨z + 1 + 1, 2, none⟩ (.int .i64 (sc : Int)))
   rw [HW9.out] at g1 ht ⊢
   have r0 : W9.cell? ⟨z + 1 + 1, 0, none⟩ = some (.bool n1) := Lib.cell_of_heap g1 0
   have r1 : W9.cell? ⟨z + 1 + 1, 1, none⟩ = some (.slice A7 lO c7) := Lib.cell_of_heap g1 1
   have r2 : W9.cell? ⟨z + 1 + 1, 2, none⟩ = some (.int .i64 (sc : Int)) := Lib.cell_of_heap g1 2
   go_wp2_with fail
   refine bodyPost_ret (v := .agg #[.bool n1, .slice A7 lO c7, .int .i64 (sc : Int)]) (by simp [results, Tryz.results80, go_sem, r0, r1, r2]) rfl ⟨n1, O, .slice A7 lO c7, sc, rfl, ?_, ?_, H97.out, ?_, ?_⟩
   ·exact HB1.out.trans ((HB7.out.mono HB1.out.size).trans (ht.below (fun b _ h => by have := Hz.out; omega) (Nat.le_trans HB1.out.size HB7.out.size)))
   ·rw [HlO.out]
    exact ht.owns HO7.out (fun g hg e => by
     obtain ⟨cur, hcur⟩ := own_type HO7.out hg
     have e2 : g = z + 2 := e
     rw [e2, show w7.heap[z + 2]? = _ from HR7.out.2.2] at hcur
     injection hcur with hcur
     injection hcur with _ h8
     revert h8
     decide)
   ·have := HL7.out
    have := HXL.out
    have := HYL.out
    omega
   ·rw [HA7.out, HXA.out, HYA.out]
    cases n1 <;> simp [sgV] <;> omega
  ·have t1 : (n1 == n2) = false := beq_eq_false_iff_ne.2 hnn
   have HNN := Lib.hid hnn
   have hcm := Lib.hid (rcmp_any X Y (by have := HXL.out; omega) (by have := HYL.out; omega) HX9.out HY9.out A6 A8 c6 c8 w4 HIX.out HIY.out)
   obtain ⟨r, Hr⟩ := name_itV (cmpN (amtD X) (amtD Y))
   clear hnn
   go_wp2_with fail
   refine hcm.out.mono ?_
   rintro e w5 ⟨rfl, q5, hw5⟩
   have HB45 := Lib.hid (show Below wc.heap.size wc w5 from by rw [hw5]; exact below_dN HB4.out q5)
   have HIX5 := Lib.hid (show IntsAt w5 A6 X from by rw [hw5]; exact HIX.out)
   have HIY5 := Lib.hid (show IntsAt w5 A8 Y from by rw [hw5]; exact HIY.out)
   have hy := HBX.out w5 HB45.out
   have u5 : w5.cell? ⟨z, 0, none⟩ = some (.bool n1) := Lib.cell_of_heap hy.1 0
   have v5 : w5.cell? ⟨z + 1, 0, none⟩ = some (.bool n2) := Lib.cell_of_heap hy.2.1 0
   rw [Hr.out]
   clear hw5 hy u0 v0 HB4
   have HB4 := Lib.hid HB45.out
   by_cases hlt : amtD X < amtD Y
   ·have g0 : r < 0 := by rw [← Hr.out]; unfold cmpN; rw [if_pos hlt]; decide
    have HLT := Lib.hid hlt
    have hsub := Lib.hid (rsub_any Y X (by have := HYL.out; omega) (by have := HXL.out; omega) HY9.out HX9.out (Nat.le_of_lt hlt) A8 A6 c8 c6 w5.drew HIY5.out HIX5.out)
    clear hlt
    have s1 := Lib.hid (show w5.drew.cell? ⟨z + 1, 0, none⟩ = some (.bool n2) from v5)
    go_upto_region 9 with fail
    go_region_held3 (fun W' => W'.cell? ⟨z + 1, 0, none⟩ = some (.bool n2)) (first | exact s1.out | exact s2.out | exact s3.out | (trace_state; fail))
     (first
      | (go_at_call 118; (with_reducible refine hsub.out.mono ?_); rintro e w7 ⟨O, s7, rfl, hb7, ho7, h97, ha7, hl7, _⟩; obtain ⟨A7, c7, rfl⟩ := slice_form ho7; obtain ⟨lO, HlO⟩ := name_itV O.length; rw [HlO.out] at ho7 ⊢; have HB7 := Lib.hid (show Below wc.heap.size wc w7 from HB4.out.trans ((below_of_dr hb7).mono HB4.out.size)); have HO7 := Lib.hid ho7; have H97 := Lib.hid h97; have HA7 := Lib.hid ha7; have HL7 := Lib.hid hl7; have HR7 := Lib.hid (HBX.out w7 HB7.out); have s2 := Lib.hid (show w7.cell? ⟨z + 1, 0, none⟩ = some (.bool n2) from Lib.cell_of_heap HR7.out.2.1 0); have q0 : w7.cell? ⟨z + 1 + 1, 0, none⟩ = some (.bool false) := Lib.cell_of_heap HR7.out.2.2 0; have q1 : w7.cell? ⟨z + 1 + 1, 1, none⟩ = some (.slice none 0 0) := Lib.cell_of_heap HR7.out.2.2 1; have q2 : w7.cell? ⟨z + 1 + 1, 2, none⟩ = some (.int .i64 0) := Lib.cell_of_heap HR7.out.2.2 2; have f0 : w7.frozen? ⟨z + 1 + 1, 0, none⟩ = false := Lib.frozen_of_heap HR7.out.2.2 0; have f1 : w7.frozen? ⟨z + 1 + 1, 1, none⟩ = false := Lib.frozen_of_heap HR7.out.2.2 1; have f2 : w7.frozen? ⟨z + 1 + 1, 2, none⟩ = false := Lib.frozen_of_heap HR7.out.2.2 2; have s3 := Lib.hid (show (((w7.setCell ⟨z + 1 + 1, 0, none⟩ (.bool n2)).setCell ⟨z + 1 + 1, 1, none⟩ (.slice A7 lO c7)).setCell ⟨z + 1 + 1, 2, none⟩ (.int .i64 (sc : Int))).cell? ⟨z + 1, 0, none⟩ = some (.bool n2) from by rw [World.cell?_setCell_far _ _ _ _ (by show z + 1 + 1 ≠ z + 1; omega), World.cell?_setCell_far _ _ _ _ (by show z + 1 + 1 ≠ z + 1; omega), World.cell?_setCell_far _ _ _ _ (by show z + 1 + 1 ≠ z + 1; omega)]; exact s2.out); clear hb7 ho7 h97 ha7 hl7))
    have g1 := heap_setCell_same _ (z + 1 + 1) 2 _ _ (.int .i64 (sc : Int)) (heap_setCell_same _ (z + 1 + 1) 1 _ _ (.slice A7 lO c7) (heap_setCell_same _ (z + 1 + 1) 0 _ _ (.bool n2) HR7.out.2.2))
    have ht := ((((Turn.refl (fun b => b = z + 2) w7).setCell (p := ⟨z + 1 + 1, 0, none⟩) (.inr rfl) (.bool n2)).setCell (p := ⟨z + 1 + 1, 1, none⟩) (.inr rfl) (.slice A7 lO c7)).setCell (p := ⟨z + 1 + 1, 2, none⟩) (.inr rfl) (.int .i64 (sc : Int)))
    obtain ⟨W9, HW9⟩ := name_itV (((w7.setCell ⟨z + 1 + 1, 0, none⟩ (.bool n2)).setCell ⟨z + 1 + 1, 1, none⟩ (.slice A7 lO c7)).setCell ⟨z + 1 + 1, 2, none⟩ (.int .i64 (sc : Int)))
    rw [HW9.out] at g1 ht ⊢
    have r0 : W9.cell? ⟨z + 1 + 1, 0, none⟩ = some (.bool n2) := Lib.cell_of_heap g1 0
    have r1 : W9.cell? ⟨z + 1 + 1, 1, none⟩ = some (.slice A7 lO c7) := Lib.cell_of_heap g1 1
    have r2 : W9.cell? ⟨z + 1 + 1, 2, none⟩ = some (.int .i64 (sc : Int)) := Lib.cell_of_heap g1 2
    go_wp2_with fail
    refine bodyPost_ret (v := .agg #[.bool n2, .slice A7 lO c7, .int .i64 (sc : Int)]) (by simp [results, Tryz.results80, go_sem, r0, r1, r2]) rfl ⟨n2, O, .slice A7 lO c7, sc, rfl, ?_, ?_, H97.out, ?_, ?_⟩
    ·exact HB1.out.trans ((HB7.out.mono HB1.out.size).trans (ht.below (fun b _ h => by have := Hz.out; omega) (Nat.le_trans HB1.out.size HB7.out.size)))
    ·rw [HlO.out]
     exact ht.owns HO7.out (fun g hg e => by
      obtain ⟨cur, hcur⟩ := own_type HO7.out hg
      have e2 : g = z + 2 := e
      rw [e2, show w7.heap[z + 2]? = _ from HR7.out.2.2] at hcur
      injection hcur with hcur
      injection hcur with _ h8
      revert h8
      decide)
    ·have := HL7.out
     have := HXL.out
     have := HYL.out
     omega
    ·rw [HA7.out, HXA.out, HYA.out]
     have h8 := HLT.out; rw [HXA.out, HYA.out] at h8; generalize amtD D * bT ^ k1 = P1 at h8 ⊢; generalize amtD E * bT ^ k2 = P2 at h8 ⊢; have h9 := HNN.out; revert h9; cases n1 <;> cases n2 <;> intro h9 <;> first | exact absurd rfl h9 | (simp [sgV]; omega)
   ·have g0 : ¬ r < 0 := by rw [← Hr.out]; unfold cmpN; rw [if_neg hlt]; split <;> decide
    have HLT := Lib.hid hlt
    have hsub := Lib.hid (rsub_any X Y (by have := HXL.out; omega) (by have := HYL.out; omega) HX9.out HY9.out (Nat.le_of_not_lt hlt) A6 A8 c6 c8 w5.drew HIX5.out HIY5.out)
    clear hlt
    have s1 := Lib.hid (show w5.drew.cell? ⟨z, 0, none⟩ = some (.bool n1) from u5)
    go_upto_region 10 with fail
    go_region_held3 (fun W' => W'.cell? ⟨z, 0, none⟩ = some (.bool n1)) (first | exact s1.out | exact s2.out | exact s3.out | (trace_state; fail))
     (first
      | (go_at_call 118; (with_reducible refine hsub.out.mono ?_); rintro e w7 ⟨O, s7, rfl, hb7, ho7, h97, ha7, hl7, _⟩; obtain ⟨A7, c7, rfl⟩ := slice_form ho7; obtain ⟨lO, HlO⟩ := name_itV O.length; rw [HlO.out] at ho7 ⊢; have HB7 := Lib.hid (show Below wc.heap.size wc w7 from HB4.out.trans ((below_of_dr hb7).mono HB4.out.size)); have HO7 := Lib.hid ho7; have H97 := Lib.hid h97; have HA7 := Lib.hid ha7; have HL7 := Lib.hid hl7; have HR7 := Lib.hid (HBX.out w7 HB7.out); have s2 := Lib.hid (show w7.cell? ⟨z, 0, none⟩ = some (.bool n1) from Lib.cell_of_heap HR7.out.1 0); have q0 : w7.cell? ⟨z + 1 + 1, 0, none⟩ = some (.bool false) := Lib.cell_of_heap HR7.out.2.2 0; have q1 : w7.cell? ⟨z + 1 + 1, 1, none⟩ = some (.slice none 0 0) := Lib.cell_of_heap HR7.out.2.2 1; have q2 : w7.cell? ⟨z + 1 + 1, 2, none⟩ = some (.int .i64 0) := Lib.cell_of_heap HR7.out.2.2 2; have f0 : w7.frozen? ⟨z + 1 + 1, 0, none⟩ = false := Lib.frozen_of_heap HR7.out.2.2 0; have f1 : w7.frozen? ⟨z + 1 + 1, 1, none⟩ = false := Lib.frozen_of_heap HR7.out.2.2 1; have f2 : w7.frozen? ⟨z + 1 + 1, 2, none⟩ = false := Lib.frozen_of_heap HR7.out.2.2 2; have s3 := Lib.hid (show (((w7.setCell ⟨z + 1 + 1, 0, none⟩ (.bool n1)).setCell ⟨z + 1 + 1, 1, none⟩ (.slice A7 lO c7)).setCell ⟨z + 1 + 1, 2, none⟩ (.int .i64 (sc : Int))).cell? ⟨z, 0, none⟩ = some (.bool n1) from by rw [World.cell?_setCell_far _ _ _ _ (by show z + 1 + 1 ≠ z; omega), World.cell?_setCell_far _ _ _ _ (by show z + 1 + 1 ≠ z; omega), World.cell?_setCell_far _ _ _ _ (by show z + 1 + 1 ≠ z; omega)]; exact s2.out); clear hb7 ho7 h97 ha7 hl7))
    have g1 := heap_setCell_same _ (z + 1 + 1) 2 _ _ (.int .i64 (sc : Int)) (heap_setCell_same _ (z + 1 + 1) 1 _ _ (.slice A7 lO c7) (heap_setCell_same _ (z + 1 + 1) 0 _ _ (.bool n1) HR7.out.2.2))
    have ht := ((((Turn.refl (fun b => b = z + 2) w7).setCell (p := ⟨z + 1 + 1, 0, none⟩) (.inr rfl) (.bool n1)).setCell (p := ⟨z + 1 + 1, 1, none⟩) (.inr rfl) (.slice A7 lO c7)).setCell (p := ⟨z + 1 + 1, 2, none⟩) (.inr rfl) (.int .i64 (sc : Int)))
    obtain ⟨W9, HW9⟩ := name_itV (((w7.setCell ⟨z + 1 + 1, 0, none⟩ (.bool n1)).setCell ⟨z + 1 + 1, 1, none⟩ (.slice A7 lO c7)).setCell ⟨z + 1 + 1, 2, none⟩ (.int .i64 (sc : Int)))
    rw [HW9.out] at g1 ht ⊢
    have r0 : W9.cell? ⟨z + 1 + 1, 0, none⟩ = some (.bool n1) := Lib.cell_of_heap g1 0
    have r1 : W9.cell? ⟨z + 1 + 1, 1, none⟩ = some (.slice A7 lO c7) := Lib.cell_of_heap g1 1
    have r2 : W9.cell? ⟨z + 1 + 1, 2, none⟩ = some (.int .i64 (sc : Int)) := Lib.cell_of_heap g1 2
    go_wp2_with fail
    refine bodyPost_ret (v := .agg #[.bool n1, .slice A7 lO c7, .int .i64 (sc : Int)]) (by simp [results, Tryz.results80, go_sem, r0, r1, r2]) rfl ⟨n1, O, .slice A7 lO c7, sc, rfl, ?_, ?_, H97.out, ?_, ?_⟩
    ·exact HB1.out.trans ((HB7.out.mono HB1.out.size).trans (ht.below (fun b _ h => by have := Hz.out; omega) (Nat.le_trans HB1.out.size HB7.out.size)))
    ·rw [HlO.out]
     exact ht.owns HO7.out (fun g hg e => by
      obtain ⟨cur, hcur⟩ := own_type HO7.out hg
      have e2 : g = z + 2 := e
      rw [e2, show w7.heap[z + 2]? = _ from HR7.out.2.2] at hcur
      injection hcur with hcur
      injection hcur with _ h8
      revert h8
      decide)
    ·have := HL7.out
     have := HXL.out
     have := HYL.out
     omega
    ·rw [HA7.out, HXA.out, HYA.out]
     have h8 := HLT.out; rw [HXA.out, HYA.out] at h8; generalize amtD D * bT ^ k1 = P1 at h8 ⊢; generalize amtD E * bT ^ k2 = P2 at h8 ⊢; have h9 := HNN.out; revert h9; cases n1 <;> cases n2 <;> intro h9 <;> first | exact absurd rfl h9 | (simp [sgV]; omega)
end Go.Proofs.YtijciakkfpjjbaaGreatDoor
namespace Go.Proofs.YtijciakkfpjjbaaGreatDoor

theorem amt_cons (x : Nat) (D : List Nat) : amtD (x :: D) = x + 10 * amtD D := by
 unfold amtD
 have h : ∀ n, pt (atD (x :: D)) (n + 1) = x + 10 * pt (atD D) n := by
  intro n
  induction n with
  | zero => simp [pt, atD]
  | succ n ih =>
   rw [pt, ih, pt, Nat.pow_succ]
   have h1 : atD (x :: D) (n + 1) = atD D n := by unfold atD; rw [List.getElem?_cons_succ]
   rw [h1, Nat.mul_add, ← Nat.mul_assoc, show bT = 10 from rfl]
   have h2 : atD D n * 10 ^ n * 10 = 10 * (atD D n * 10 ^ n) := Nat.mul_comm _ _
   omega
 exact h D.length
theorem amt_rev (m : List UInt8) : amtD (m.map valU) = digV m.reverse := by
 induction m with
 | nil => rfl
 | cons c r ih =>
  rw [List.map_cons, amt_cons, ih, List.reverse_cons, dig_snoc]
  unfold valU
  omega
theorem amt_revD (l : List UInt8) : amtD (revD l) = digV l := by
 have h := amt_rev l.reverse
 rw [List.reverse_reverse] at h
 unfold revD
 rw [← h, List.map_reverse]
theorem head_dig {a : List UInt8} (h : 1 ≤ a.length) (hd : a.all digB = true) (r : List UInt8) : ∃ c t, a ++ r = c :: t ∧ c ≠ 45 ∧ c ≠ 43 := by
 cases a with
 | nil => exact absurd h (by simp)
 | cons c t =>
  rw [List.all_cons, Bool.and_eq_true, digB_iff] at hd
  refine ⟨c, t ++ r, rfl, fun e => ?_, fun e => ?_⟩
  ·rw [e] at hd
   have := hd.1.1
   revert this
   decide
  ·rw [e] at hd
   have := hd.1.1
   revert this
   decide
theorem sgn_of {s : ByteArray} {neg : Bool} {a b : List UInt8} (h : DecS s neg a b) : sgnB s = neg ∧ (sgnT s).data.toList = a ++ 46 :: b := by
 obtain ⟨c, t, hc, h45, h43⟩ := head_dig h.la.1 h.da (46 :: b)
 have he := h.eq
 cases neg with
 | true =>
  simp only [cond_true, List.singleton_append] at he
  have h1 : sgnB s = true := by unfold sgnB; rw [he]; rfl
  have h2 : sgnY s = true := by unfold sgnY; rw [he]; rfl
  refine ⟨h1, ?_⟩
  unfold sgnT
  rw [h2, cond_true, ByteArray.data_extract, Array.toList_extract, he]
  have hl : s.size = (a ++ 46 :: b).length + 1 := by
   show s.data.toList.length = _
   rw [he, List.length_cons]
  rw [hl]
  simp only [List.extract_eq_take_drop, List.drop_succ_cons, List.drop_zero, Nat.add_sub_cancel]
  exact List.take_of_length_le (Nat.le_refl _)
 | false =>
  simp only [cond_false, List.nil_append] at he
  have h1 : sgnB s = false := by
   unfold sgnB
   rw [he, hc]
   exact beq_eq_false_iff_ne.2 (fun e => h45 (by simpa using e))
  have h2 : sgnY s = false := by
   unfold sgnY
   rw [he, hc]
   have e1 : ((c :: t).head? == some 45) = false := beq_eq_false_iff_ne.2 (fun e => h45 (by simpa using e))
   have e2 : ((c :: t).head? == some 43) = false := beq_eq_false_iff_ne.2 (fun e => h43 (by simpa using e))
   rw [e1, e2]
   rfl
  refine ⟨h1, ?_⟩
  unfold sgnT
  rw [h2]
  exact he
/-- How the reference parses a decimal. -/
theorem dec_parse {s : ByteArray} {neg : Bool} {a b : List UInt8} (h : DecS s neg a b) : parseT s = some (neg, revD (a ++ b), b.length) := by
 obtain ⟨h1, h2⟩ := sgn_of h
 have hp := pointF_yes a b (no46 h.da) 0
 rw [h.da, h.db] at hp
 simp only [Bool.and_self, cond_true, Nat.zero_add] at hp
 have hsz : (sgnT s).size = a.length + (b.length + 1) := by
  show (sgnT s).data.toList.length = _
  rw [h2, List.length_append, List.length_cons]
 unfold parseT
 rw [h2, hp]
 simp only
 have e0 : decide ((sgnT s).size = 0) = false := decide_eq_false (by rw [hsz]; omega)
 have q1 : a.length ≠ 0 := by have := h.la.1; omega
 have q2 : a.length ≠ (sgnT s).size - 1 := by have := h.lb.1; omega
 have e1 : ((some a.length : Option Nat) == some 0) = false := beq_eq_false_iff_ne.2 (fun e => q1 (by simpa using e))
 have e2 : ((some a.length : Option Nat) == some ((sgnT s).size - 1)) = false := beq_eq_false_iff_ne.2 (fun e => q2 (by simpa using e))
 rw [e0, e1, e2, h1, digs_yes h.da h.db]
 have e3 : scaleP (sgnT s).size (some a.length) = b.length := by
  show (sgnT s).size - 1 - a.length = b.length
  rw [hsz]
  omega
 rw [e3]
 rfl
end Go.Proofs.YtijciakkfpjjbaaGreatDoor
