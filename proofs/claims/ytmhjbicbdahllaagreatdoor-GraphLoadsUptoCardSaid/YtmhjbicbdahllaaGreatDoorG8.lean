/- 'copied': a value whose list is cloned. -/
import Derived.Test.YtmhjbicbdahllaaGreatDoorG7
namespace Go.Proofs.YtmhjbicbdahllaaGreatDoor
open Go Go.RowKit

/-- A list that lies in old or new blocks. -/
def LFl (w : World) (F : Nat → Prop) (l : List Val) (s : Value) : Prop := SlR 6 VaR w F l s ∧ ∀ b, F b → b < w.heap.size
theorem LFl.form {w : World} {F : Nat → Prop} {l : List Val} {s : Value} (h : LFl w F l s) : ∃ A cap, s = .slice A l.length cap := by
  obtain ⟨⟨A, cap, e, _⟩, _⟩ := h
  exact ⟨A, cap, e⟩
theorem LFl.turn {w w' : World} {F : Nat → Prop} {l : List Val} {s : Value} (h : LFl w F l s) {S : Nat → Prop} (ht : Turn S w w') (hS : ∀ b, F b → ¬ S b) : LFl w' F l s :=
  ⟨h.1.turn VaR.good ht h.2 hS, fun b hb => Nat.lt_of_lt_of_le (h.2 b hb) ht.size⟩
def CloIs (l : List Val) (w : World) (e : Ending) (w' : World) : Prop := ∃ s, e = .returned s ∧ Below w.heap.size w w' ∧ LFl w' (fun b => w.heap.size ≤ b ∧ b < w'.heap.size) l s
def CloVIs (v : Val) (w : World) (e : Ending) (w' : World) : Prop := ∃ s, e = .returned (.agg (cellsV v s)) ∧ Below w.heap.size w w' ∧ SlR 6 VaR w' (fun b => w.heap.size ≤ b ∧ b < w'.heap.size) v.list s
/-- Of lists of values without lists the clone leads to nothing old. -/
theorem VaR.flat {w : World} {F F' : Nat → Prop} {x : Val} {c : Array Value} (h : VaR w F x c) (hx : x.list = []) : VaR w F' x c := by
  obtain ⟨A, cap, hu, hcap, hl⟩ := VRd.inv h
  injection hu with hu
  subst hu
  exact VRd.of_list hcap (by rw [hx]; exact ⟨rfl, fun h => absurd h (by simp)⟩)
theorem clone_flat {l : List Val} {F : Nat → Prop} {w w' : World} {e : Ending} (hf : ∀ x, x ∈ l → x.list = []) (h : CloneIs 55 6 VaR F l w e w') : CloIs l w e w' := by
  obtain ⟨s, he, hb, hown, hs⟩ := h
  refine ⟨s, he, hb, ?_, fun b hb => hb.2⟩
  obtain ⟨cs, h1, h6, hF, hr⟩ := hown
  have h2 : SOwn 55 6 VaR w' (fun b => w.heap.size ≤ b ∧ b < w'.heap.size) l s := ⟨cs, h1, h6, fun g hg => ⟨hs g hg, (h1.lt g hg).2⟩, fun i x hx => (hr i x hx).flat (hf x (List.mem_of_getElem? hx))⟩
  exact h2.rd VaR.good

set_option maxRecDepth 100000 in
set_option maxHeartbeats 1000000 in
theorem copied_step (v : Val) {F : Nat → Prop} (A : Option Addr) (cap : Nat) (w : World) (hF : ∀ g, F g → g < w.heap.size) (hA : LRd w F v.list A v.list.length)
    (hrow : ∀ w', LRd w' F v.list A v.list.length → (∀ g, F g → g < w'.heap.size) → Calls Tryz.prog 70 #[.slice A v.list.length cap] w' (CloIs v.list w')) :
    Calls Tryz.prog 51 #[.agg (cellsV v (.slice A v.list.length cap))] w (CloVIs v w) := by
  obtain ⟨k, t, n, s, x, l⟩ := v
  unfold cellsV
  simp only [Val.kind, Val.truth, Val.num, Val.text, Val.extra, Val.list] at hA hrow ⊢
  have HN := Lib.hid (two_new w (.cells #[.int .i64 k, .bool t, .int .i64 n, .string s, .string x, .slice A l.length cap] 55) (.cells #[.int .i64 0, .bool false, .int .i64 0, .string ⟨#[]⟩, .string ⟨#[]⟩, .slice none 0 0] 55))
  have hs2 : ((w.alloc (.cells #[.int .i64 k, .bool t, .int .i64 n, .string s, .string x, .slice A l.length cap] 55)).alloc (.cells #[.int .i64 0, .bool false, .int .i64 0, .string ⟨#[]⟩, .string ⟨#[]⟩, .slice none 0 0] 55)).heap.size = w.heap.size + 2 := by simp
  have hb1 : ((w.alloc (.cells #[.int .i64 k, .bool t, .int .i64 n, .string s, .string x, .slice A l.length cap] 55)).alloc (.cells #[.int .i64 0, .bool false, .int .i64 0, .string ⟨#[]⟩, .string ⟨#[]⟩, .slice none 0 0] 55)).heap[w.heap.size]? = some (.cells #[.int .i64 k, .bool t, .int .i64 n, .string s, .string x, .slice A l.length cap] 55 (0, 0)) := by
    rw [Below.heap_alloc _ _ _ (by simp)]
    exact heap_alloc_new w _
  have hb2 : ((w.alloc (.cells #[.int .i64 k, .bool t, .int .i64 n, .string s, .string x, .slice A l.length cap] 55)).alloc (.cells #[.int .i64 0, .bool false, .int .i64 0, .string ⟨#[]⟩, .string ⟨#[]⟩, .slice none 0 0] 55)).heap[w.heap.size + 1]? = some (.cells #[.int .i64 0, .bool false, .int .i64 0, .string ⟨#[]⟩, .string ⟨#[]⟩, .slice none 0 0] 55 (0, 0)) := by
    have := heap_alloc_new (w.alloc (.cells #[.int .i64 k, .bool t, .int .i64 n, .string s, .string x, .slice A l.length cap] 55)) (.cells #[.int .i64 0, .bool false, .int .i64 0, .string ⟨#[]⟩, .string ⟨#[]⟩, .slice none 0 0] 55)
    simpa using this
  obtain ⟨z, HZ⟩ := name_itV w.heap.size
  obtain ⟨W2, HW2⟩ := name_itV ((w.alloc (.cells #[.int .i64 k, .bool t, .int .i64 n, .string s, .string x, .slice A l.length cap] 55)).alloc (.cells #[.int .i64 0, .bool false, .int .i64 0, .string ⟨#[]⟩, .string ⟨#[]⟩, .slice none 0 0] 55))
  rw [HW2.out] at HN hs2 hb1 hb2
  have HC := Lib.hid (hrow W2 (hA.under HN.out hF) (fun g hg => by have := hF g hg; have := HN.out.size; omega))
  rw [HZ.out] at HN hs2 hb1 hb2
  have HB1 := Lib.hid hb1
  have HB2 := Lib.hid hb2
  have HS2 := Lib.hid hs2
  have c5 : W2.cell? ⟨z, 5, none⟩ = some (.slice A l.length cap) := Lib.cell_of_heap hb1 5
  clear hA hrow hF hb1 hb2 hs2
  go_enter Tryz.func51, Tryz.ntmps51
  go_upto_region 1 with fail
  rw [HW2.out, HZ.out]
  go_wp2_with fail
  refine HC.out.mono ?_
  rintro e w5 ⟨s', rfl, hb5, hl5⟩
  obtain ⟨A', cp', rfl⟩ := hl5.form
  have HL5 := Lib.hid hl5
  have HB5 := Lib.hid hb5
  have hz5 : z + 2 ≤ w5.heap.size := by have := hb5.size; have := HS2.out; omega
  have HB15 := Lib.hid ((hb5.block z (by have := HS2.out; omega)).trans HB1.out)
  have HB25 := Lib.hid ((hb5.block (z + 1) (by have := HS2.out; omega)).trans HB2.out)
  have d0 : w5.cell? ⟨z, 0, none⟩ = some (.int .i64 k) := Lib.cell_of_heap HB15.out 0
  have d5 : w5.cell? ⟨z, 5, none⟩ = some (.slice A l.length cap) := Lib.cell_of_heap HB15.out 5
  have f5 : w5.frozen? ⟨z, 5, none⟩ = false := Lib.frozen_of_heap HB15.out 5
  have hb6 := heap_setCell_same w5 z 5 _ 55 (.slice A' l.length cp') HB15.out
  have hb62 : (w5.setCell ⟨z, 5, none⟩ (.slice A' l.length cp')).heap[z + 1]? = _ := (Below.heap_setCell w5 ⟨z, 5, none⟩ (.slice A' l.length cp') (z + 1) (by simp)).trans HB25.out
  have ht6 := (Turn.refl (fun b => b = z ∨ b = z + 1) w5).setCell (p := ⟨z, 5, none⟩) (.inr (.inl rfl)) (.slice A' l.length cp')
  obtain ⟨W6, HW6⟩ := name_itV (w5.setCell ⟨z, 5, none⟩ (.slice A' l.length cp'))
  rw [HW6.out] at hb6 hb62 ht6
  have g0 : W6.cell? ⟨z, 0, none⟩ = some (.int .i64 k) := Lib.cell_of_heap hb6 0
  have g1 : W6.cell? ⟨z, 1, none⟩ = some (.bool t) := Lib.cell_of_heap hb6 1
  have g2 : W6.cell? ⟨z, 2, none⟩ = some (.int .i64 n) := Lib.cell_of_heap hb6 2
  have g3 : W6.cell? ⟨z, 3, none⟩ = some (.string s) := Lib.cell_of_heap hb6 3
  have g4 : W6.cell? ⟨z, 4, none⟩ = some (.string x) := Lib.cell_of_heap hb6 4
  have g5 : W6.cell? ⟨z, 5, none⟩ = some (.slice A' l.length cp') := Lib.cell_of_heap hb6 5
  have r0 : W6.cell? ⟨z + 1, 0, none⟩ = some (.int .i64 0) := Lib.cell_of_heap hb62 0
  have y0 : W6.frozen? ⟨z + 1, 0, none⟩ = false := Lib.frozen_of_heap hb62 0
  have r1 : W6.cell? ⟨z + 1, 1, none⟩ = some (.bool false) := Lib.cell_of_heap hb62 1
  have y1 : W6.frozen? ⟨z + 1, 1, none⟩ = false := Lib.frozen_of_heap hb62 1
  have r2 : W6.cell? ⟨z + 1, 2, none⟩ = some (.int .i64 0) := Lib.cell_of_heap hb62 2
  have y2 : W6.frozen? ⟨z + 1, 2, none⟩ = false := Lib.frozen_of_heap hb62 2
  have r3 : W6.cell? ⟨z + 1, 3, none⟩ = some (.string ⟨#[]⟩) := Lib.cell_of_heap hb62 3
  have y3 : W6.frozen? ⟨z + 1, 3, none⟩ = false := Lib.frozen_of_heap hb62 3
  have r4 : W6.cell? ⟨z + 1, 4, none⟩ = some (.string ⟨#[]⟩) := Lib.cell_of_heap hb62 4
  have y4 : W6.frozen? ⟨z + 1, 4, none⟩ = false := Lib.frozen_of_heap hb62 4
  have r5 : W6.cell? ⟨z + 1, 5, none⟩ = some (.slice none 0 0) := Lib.cell_of_heap hb62 5
  have y5 : W6.frozen? ⟨z + 1, 5, none⟩ = false := Lib.frozen_of_heap hb62 5
  have HB6 := Lib.hid hb6
  have HB62 := Lib.hid hb62
  have HT6 := Lib.hid ht6
  clear hb5 hl5 hb6 hb62 ht6 c5
  go_upto_region 2 with fail
  rw [HW6.out]
  go_wp2_with fail
  have hz9 : ((((((W6.setCell ⟨z + 1, 0, none⟩ (.int .i64 k)).setCell ⟨z + 1, 1, none⟩ (.bool t)).setCell ⟨z + 1, 2, none⟩ (.int .i64 n)).setCell ⟨z + 1, 3, none⟩ (.string s)).setCell ⟨z + 1, 4, none⟩ (.string x)).setCell ⟨z + 1, 5, none⟩ (.slice A' l.length cp')).heap[z + 1]? = some (.cells #[.int .i64 k, .bool t, .int .i64 n, .string s, .string x, .slice A' l.length cp'] 55 (0, 0)) := (heap_setCell_same _ (z + 1) 5 _ 55 _ (heap_setCell_same _ (z + 1) 4 _ 55 _ (heap_setCell_same _ (z + 1) 3 _ 55 _ (heap_setCell_same _ (z + 1) 2 _ 55 _ (heap_setCell_same _ (z + 1) 1 _ 55 _ (heap_setCell_same _ (z + 1) 0 _ 55 _ HB62.out))))))
  have ht9 : Turn (fun b => b = z ∨ b = z + 1) w5 ((((((W6.setCell ⟨z + 1, 0, none⟩ (.int .i64 k)).setCell ⟨z + 1, 1, none⟩ (.bool t)).setCell ⟨z + 1, 2, none⟩ (.int .i64 n)).setCell ⟨z + 1, 3, none⟩ (.string s)).setCell ⟨z + 1, 4, none⟩ (.string x)).setCell ⟨z + 1, 5, none⟩ (.slice A' l.length cp')) := ((((((HT6.out.setCell (p := ⟨z + 1, 0, none⟩) (.inr (.inr rfl)) _).setCell (p := ⟨z + 1, 1, none⟩) (.inr (.inr rfl)) _).setCell (p := ⟨z + 1, 2, none⟩) (.inr (.inr rfl)) _).setCell (p := ⟨z + 1, 3, none⟩) (.inr (.inr rfl)) _).setCell (p := ⟨z + 1, 4, none⟩) (.inr (.inr rfl)) _).setCell (p := ⟨z + 1, 5, none⟩) (.inr (.inr rfl)) _)
  obtain ⟨W9, HW9⟩ := name_itV ((((((W6.setCell ⟨z + 1, 0, none⟩ (.int .i64 k)).setCell ⟨z + 1, 1, none⟩ (.bool t)).setCell ⟨z + 1, 2, none⟩ (.int .i64 n)).setCell ⟨z + 1, 3, none⟩ (.string s)).setCell ⟨z + 1, 4, none⟩ (.string x)).setCell ⟨z + 1, 5, none⟩ (.slice A' l.length cp'))
  rw [HW9.out] at hz9 ht9 ⊢
  have q0 : W9.cell? ⟨z + 1, 0, none⟩ = some (.int .i64 k) := Lib.cell_of_heap hz9 0
  have q1 : W9.cell? ⟨z + 1, 1, none⟩ = some (.bool t) := Lib.cell_of_heap hz9 1
  have q2 : W9.cell? ⟨z + 1, 2, none⟩ = some (.int .i64 n) := Lib.cell_of_heap hz9 2
  have q3 : W9.cell? ⟨z + 1, 3, none⟩ = some (.string s) := Lib.cell_of_heap hz9 3
  have q4 : W9.cell? ⟨z + 1, 4, none⟩ = some (.string x) := Lib.cell_of_heap hz9 4
  have q5 : W9.cell? ⟨z + 1, 5, none⟩ = some (.slice A' l.length cp') := Lib.cell_of_heap hz9 5
  have HT9 := Lib.hid ht9
  clear ht9 hz9 r0 r1 r2 r3 r4 r5 y0 y1 y2 y3 y4 y5 g0 g1 g2 g3 g4 g5 d0 d5 f5
  go_wp2_with fail
  refine bodyPost_ret (v := .agg #[.int .i64 k, .bool t, .int .i64 n, .string s, .string x, .slice A' l.length cp']) (by simp [results, Tryz.results51, go_sem, q0, q1, q2, q3, q4, q5]) rfl ⟨.slice A' l.length cp', rfl, ?_, ?_⟩
  · rw [HZ.out]
    exact (HN.out.trans (HB5.out.mono (by have := HS2.out; omega))).trans (HT9.out.below (fun i _ h => by omega) (by omega))
  · have h1 := HL5.out.turn HT9.out (fun b hb h => by have := HS2.out; omega)
    refine h1.1.mono VaR.good (fun b hb => ⟨?_, ?_⟩)
    · have := HS2.out; have := HZ.out; omega
    · have := HT9.out.size; omega

/-- 'copied': the value in memory of its own. -/
def CopdIs (v : Val) (w : World) (e : Ending) (w' : World) : Prop := ∃ B cb, e = .returned (.agg (cellsV v (.slice B v.list.length cb))) ∧ Below w.heap.size w w' ∧ VRd w' (fun b => w.heap.size ≤ b ∧ b < w'.heap.size) v (.agg (cellsV v (.slice B v.list.length cb)))
theorem copied_any (v : Val) (hf : ∀ x, x ∈ v.list → x.list = []) (hs : sizeV v ≤ 2000000) (F : Nat → Prop) (u : Value) (w : World) (hF : ∀ g, F g → g < w.heap.size) (hv : VRd w F v u) :
    Calls Tryz.prog 51 #[u] w (CopdIs v w) := by
  obtain ⟨A, cap, rfl, _, hl⟩ := hv.inv
  have hz := sizeL_list v
  have hn := len_le_size v.list
  refine (copied_step v A cap w hF hl (fun w' h1 h2 => (cloneV_any v.list F A _ cap (by omega) w' h2 h1).mono fun e w2 h => clone_flat hf h)).mono ?_
  rintro e w' ⟨s, rfl, hb, B, cb, rfl, hc, hr⟩
  exact ⟨B, cb, rfl, hb, VRd.of_list hc hr⟩
end Go.Proofs.YtmhjbicbdahllaaGreatDoor
