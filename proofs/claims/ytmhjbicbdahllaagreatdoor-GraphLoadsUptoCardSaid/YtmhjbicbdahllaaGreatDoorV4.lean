/- The reference's CopyValue and CopyRow: copies in rows of their own. -/
import Derived.Test.YtmhjbicbdahllaaGreatDoorV3
import Derived.Test.YtmhjbicbdahllaaGreatDoorU0
import Derived.Deep.DeepCutAuto
namespace Go.Proofs.YtmhjbicbdahllaaGreatDoor
open Go Go.RowKit

/-- A copy of a row. -/
def CopyIs (l : List Val) (w : World) (e : Ending) (w' : World) : Prop := ∃ s, e = .returned s ∧ Below w.heap.size w w' ∧ LOwn w' (fun b => w.heap.size ≤ b ∧ b < w'.heap.size) l s
def CopyVIs (v : Val) (w : World) (e : Ending) (w' : World) : Prop := ∃ s, e = .returned (.agg (cellsV v s)) ∧ Below w.heap.size w w' ∧ LOwn w' (fun b => w.heap.size ≤ b ∧ b < w'.heap.size) v.list s

set_option maxRecDepth 100000 in
set_option maxHeartbeats 1000000 in
theorem copy_step (v : Val) {F : Nat → Prop} (A : Option Addr) (cap : Nat) (w : World) (hF : ∀ g, F g → g < w.heap.size) (hA : LRd w F v.list A v.list.length)
    (hrow : ∀ w', LRd w' F v.list A v.list.length → (∀ g, F g → g < w'.heap.size) → Calls Tryz.prog 71 #[.slice A v.list.length cap] w' (CopyIs v.list w')) :
    Calls Tryz.prog 52 #[.agg (cellsV v (.slice A v.list.length cap))] w (CopyVIs v w) := by
  obtain ⟨k, t, n, s, x, l⟩ := v
  unfold cellsV
  simp only [Val.kind, Val.truth, Val.num, Val.text, Val.extra, Val.list] at hA hrow ⊢
  have HN := Lib.hid (two_new w (.cells #[.int .i64 k, .bool t, .int .i64 n, .string s, .string x, .slice A l.length cap] 55) (.cells #[.int .i64 0, .bool false, .int .i64 0, .string ⟨#[]⟩, .string ⟨#[]⟩, .slice none 0 0] 55))
  have hs2 : ((w.alloc (.cells #[.int .i64 k, .bool t, .int .i64 n, .string s, .string x, .slice A l.length cap] 55)).alloc (.cells #[.int .i64 0, .bool false, .int .i64 0, .string ⟨#[]⟩, .string ⟨#[]⟩, .slice none 0 0] 55)).heap.size = w.heap.size + 2 := by simp
  have hb1 : ((w.alloc (.cells #[.int .i64 k, .bool t, .int .i64 n, .string s, .string x, .slice A l.length cap] 55)).alloc (.cells #[.int .i64 0, .bool false, .int .i64 0, .string ⟨#[]⟩, .string ⟨#[]⟩, .slice none 0 0] 55)).heap[w.heap.size]? = some (.cells #[.int .i64 k, .bool t, .int .i64 n, .string s, .string x, .slice A l.length cap] 55 (0, 0)) := by
    rw [Below.heap_alloc _ _ _ (by simp)]
    exact heap_alloc_new w _
  have hb2 : ((w.alloc (.cells #[.int .i64 k, .bool t, .int .i64 n, .string s, .string x, .slice A l.length cap] 55)).alloc (.cells #[.int .i64 0, .bool false, .int .i64 0, .string ⟨#[]⟩, .string ⟨#[]⟩, .slice none 0 0] 55)).heap[w.heap.size + 1]? = some (.cells #[.int .i64 0, .bool false, .int .i64 0, .string ⟨#[]⟩, .string ⟨#[]⟩, .slice none 0 0] 55 (0, 0)) := by
    have := heap_alloc_new (w.alloc (.cells #[.int .i64 k, .bool t, .int .i64 n, .string s, .string x, .slice A l.length cap] 55)) (.cells #[.int .i64 0, .bool false, .int .i64 0, .string ⟨#[]⟩, .string ⟨#[]⟩, .slice none 0 0] 55)
    simpa using this
  obtain ⟨z, HZ⟩ := name_itV w.heap.size
  obtain ⟨W2, HW2⟩ := name_itV ((w.alloc (.cells #[.int .i64 k, .bool t, .int .i64 n, .string s, .string x, .slice A l.length cap] 55)).alloc (.cells #[.int .i64 0, .bool false, .int .i64 0, .string ⟨#[]⟩, .string ⟨#[]⟩, .slice none 0 0] 55))
  rw [HW2.out] at HN hs2 hb1 hb2
  have HC := Lib.hid (hrow W2 (hA.under HN.out hF) (fun g hg => by have := hF g hg; have := HN.out.size; omega))
  rw [HZ.out] at HN hs2 hb1 hb2
  have HB1 := Lib.hid hb1
  have HB2 := Lib.hid hb2
  have HS2 := Lib.hid hs2
  have c5 : W2.cell? ⟨z, 5, none⟩ = some (.slice A l.length cap) := Lib.cell_of_heap hb1 5
  clear hA hrow hF hb1 hb2 hs2
  go_enter Tryz.func52, Tryz.ntmps52
  go_upto_region 1 with fail
  rw [HW2.out, HZ.out]
  go_wp2_with fail
  refine HC.out.mono ?_
  rintro e w5 ⟨s', rfl, hb5, hl5⟩
  obtain ⟨A', cp', rfl⟩ := hl5.form
  have HL5 := Lib.hid hl5
  have HB5 := Lib.hid hb5
  have hz5 : z + 2 ≤ w5.heap.size := by have := hb5.size; have := HS2.out; omega
  have HB15 := Lib.hid ((hb5.block z (by have := HS2.out; omega)).trans HB1.out)
  have HB25 := Lib.hid ((hb5.block (z + 1) (by have := HS2.out; omega)).trans HB2.out)
  have d0 : w5.cell? ⟨z, 0, none⟩ = some (.int .i64 k) := Lib.cell_of_heap HB15.out 0
  have d5 : w5.cell? ⟨z, 5, none⟩ = some (.slice A l.length cap) := Lib.cell_of_heap HB15.out 5
  have f5 : w5.frozen? ⟨z, 5, none⟩ = false := Lib.frozen_of_heap HB15.out 5
  have hb6 := heap_setCell_same w5 z 5 _ 55 (.slice A' l.length cp') HB15.out
  have hb62 : (w5.setCell ⟨z, 5, none⟩ (.slice A' l.length cp')).heap[z + 1]? = _ := (Below.heap_setCell w5 ⟨z, 5, none⟩ (.slice A' l.length cp') (z + 1) (by simp)).trans HB25.out
  have ht6 := (Turn.refl (fun b => b = z ∨ b = z + 1) w5).setCell (p := ⟨z, 5, none⟩) (.inr (.inl rfl)) (.slice A' l.length cp')
  obtain ⟨W6, HW6⟩ := name_itV (w5.setCell ⟨z, 5, none⟩ (.slice A' l.length cp'))
  rw [HW6.out] at hb6 hb62 ht6
  have g0 : W6.cell? ⟨z, 0, none⟩ = some (.int .i64 k) := Lib.cell_of_heap hb6 0
  have g1 : W6.cell? ⟨z, 1, none⟩ = some (.bool t) := Lib.cell_of_heap hb6 1
  have g2 : W6.cell? ⟨z, 2, none⟩ = some (.int .i64 n) := Lib.cell_of_heap hb6 2
  have g3 : W6.cell? ⟨z, 3, none⟩ = some (.string s) := Lib.cell_of_heap hb6 3
  have g4 : W6.cell? ⟨z, 4, none⟩ = some (.string x) := Lib.cell_of_heap hb6 4
  have g5 : W6.cell? ⟨z, 5, none⟩ = some (.slice A' l.length cp') := Lib.cell_of_heap hb6 5
  have r0 : W6.cell? ⟨z + 1, 0, none⟩ = some (.int .i64 0) := Lib.cell_of_heap hb62 0
  have y0 : W6.frozen? ⟨z + 1, 0, none⟩ = false := Lib.frozen_of_heap hb62 0
  have r1 : W6.cell? ⟨z + 1, 1, none⟩ = some (.bool false) := Lib.cell_of_heap hb62 1
  have y1 : W6.frozen? ⟨z + 1, 1, none⟩ = false := Lib.frozen_of_heap hb62 1
  have r2 : W6.cell? ⟨z + 1, 2, none⟩ = some (.int .i64 0) := Lib.cell_of_heap hb62 2
  have y2 : W6.frozen? ⟨z + 1, 2, none⟩ = false := Lib.frozen_of_heap hb62 2
  have r3 : W6.cell? ⟨z + 1, 3, none⟩ = some (.string ⟨#[]⟩) := Lib.cell_of_heap hb62 3
  have y3 : W6.frozen? ⟨z + 1, 3, none⟩ = false := Lib.frozen_of_heap hb62 3
  have r4 : W6.cell? ⟨z + 1, 4, none⟩ = some (.string ⟨#[]⟩) := Lib.cell_of_heap hb62 4
  have y4 : W6.frozen? ⟨z + 1, 4, none⟩ = false := Lib.frozen_of_heap hb62 4
  have r5 : W6.cell? ⟨z + 1, 5, none⟩ = some (.slice none 0 0) := Lib.cell_of_heap hb62 5
  have y5 : W6.frozen? ⟨z + 1, 5, none⟩ = false := Lib.frozen_of_heap hb62 5
  have HB6 := Lib.hid hb6
  have HB62 := Lib.hid hb62
  have HT6 := Lib.hid ht6
  clear hb5 hl5 hb6 hb62 ht6 c5
  go_upto_region 2 with fail
  rw [HW6.out]
  go_wp2_with fail
  have hz9 : ((((((W6.setCell ⟨z + 1, 0, none⟩ (.int .i64 k)).setCell ⟨z + 1, 1, none⟩ (.bool t)).setCell ⟨z + 1, 2, none⟩ (.int .i64 n)).setCell ⟨z + 1, 3, none⟩ (.string s)).setCell ⟨z + 1, 4, none⟩ (.string x)).setCell ⟨z + 1, 5, none⟩ (.slice A' l.length cp')).heap[z + 1]? = some (.cells #[.int .i64 k, .bool t, .int .i64 n, .string s, .string x, .slice A' l.length cp'] 55 (0, 0)) := (heap_setCell_same _ (z + 1) 5 _ 55 _ (heap_setCell_same _ (z + 1) 4 _ 55 _ (heap_setCell_same _ (z + 1) 3 _ 55 _ (heap_setCell_same _ (z + 1) 2 _ 55 _ (heap_setCell_same _ (z + 1) 1 _ 55 _ (heap_setCell_same _ (z + 1) 0 _ 55 _ HB62.out))))))
  have ht9 : Turn (fun b => b = z ∨ b = z + 1) w5 ((((((W6.setCell ⟨z + 1, 0, none⟩ (.int .i64 k)).setCell ⟨z + 1, 1, none⟩ (.bool t)).setCell ⟨z + 1, 2, none⟩ (.int .i64 n)).setCell ⟨z + 1, 3, none⟩ (.string s)).setCell ⟨z + 1, 4, none⟩ (.string x)).setCell ⟨z + 1, 5, none⟩ (.slice A' l.length cp')) := ((((((HT6.out.setCell (p := ⟨z + 1, 0, none⟩) (.inr (.inr rfl)) _).setCell (p := ⟨z + 1, 1, none⟩) (.inr (.inr rfl)) _).setCell (p := ⟨z + 1, 2, none⟩) (.inr (.inr rfl)) _).setCell (p := ⟨z + 1, 3, none⟩) (.inr (.inr rfl)) _).setCell (p := ⟨z + 1, 4, none⟩) (.inr (.inr rfl)) _).setCell (p := ⟨z + 1, 5, none⟩) (.inr (.inr rfl)) _)
  obtain ⟨W9, HW9⟩ := name_itV ((((((W6.setCell ⟨z + 1, 0, none⟩ (.int .i64 k)).setCell ⟨z + 1, 1, none⟩ (.bool t)).setCell ⟨z + 1, 2, none⟩ (.int .i64 n)).setCell ⟨z + 1, 3, none⟩ (.string s)).setCell ⟨z + 1, 4, none⟩ (.string x)).setCell ⟨z + 1, 5, none⟩ (.slice A' l.length cp'))
  rw [HW9.out] at hz9 ht9 ⊢
  have q0 : W9.cell? ⟨z + 1, 0, none⟩ = some (.int .i64 k) := Lib.cell_of_heap hz9 0
  have q1 : W9.cell? ⟨z + 1, 1, none⟩ = some (.bool t) := Lib.cell_of_heap hz9 1
  have q2 : W9.cell? ⟨z + 1, 2, none⟩ = some (.int .i64 n) := Lib.cell_of_heap hz9 2
  have q3 : W9.cell? ⟨z + 1, 3, none⟩ = some (.string s) := Lib.cell_of_heap hz9 3
  have q4 : W9.cell? ⟨z + 1, 4, none⟩ = some (.string x) := Lib.cell_of_heap hz9 4
  have q5 : W9.cell? ⟨z + 1, 5, none⟩ = some (.slice A' l.length cp') := Lib.cell_of_heap hz9 5
  have HT9 := Lib.hid ht9
  clear ht9 hz9 r0 r1 r2 r3 r4 r5 y0 y1 y2 y3 y4 y5 g0 g1 g2 g3 g4 g5 d0 d5 f5
  go_wp2_with fail
  refine bodyPost_ret (v := .agg #[.int .i64 k, .bool t, .int .i64 n, .string s, .string x, .slice A' l.length cp']) (by simp [results, Tryz.results52, go_sem, q0, q1, q2, q3, q4, q5]) rfl ⟨.slice A' l.length cp', rfl, ?_, ?_⟩
  · rw [HZ.out]
    exact (HN.out.trans (HB5.out.mono (by have := HS2.out; omega))).trans (HT9.out.below (fun i _ h => by omega) (by omega))
  · have h1 := HL5.out.turn HT9.out (fun b hb h => by have := HS2.out; omega)
    refine h1.mono (fun b hb => ⟨?_, ?_⟩)
    · have := HS2.out; have := HZ.out; omega
    · have := HT9.out.size; omega

theorem infoVal : (Tryz.prog.info? 55).map (fun i => (i.zero, i.size, i.bytes)) = some (some (.agg #[.int .i64 0, .bool false, .int .i64 0, .string ⟨#[]⟩, .string ⟨#[]⟩, .slice none 0 0]), 6, 80) := by kernel_rfl
theorem one_val (x : Val) (B : Option Addr) (n c : Nat) : ∀ u ∈ (cellsV x (.slice B n c)).toList, u.oneCell' = true := by
  intro u hu
  simp [cellsV] at hu
  rcases hu with h | h | h | h | h | h <;> subst h <;> rfl

set_option maxRecDepth 100000 in
set_option maxHeartbeats 1000000 in
theorem copy_any (N : Nat) : ∀ (l : List Val) (_ : sizeL l < N) (_ : sizeL l ≤ 100000000) (F : Nat → Prop) (A : Option Addr) (n cap : Nat) (w : World) (_ : ∀ g, F g → g < w.heap.size) (_ : LRd w F l A n),
    Calls Tryz.prog 71 #[.slice A n cap] w (CopyIs l w) := by
  induction N with
  | zero => exact fun _ h => absurd h (Nat.not_lt_zero _)
  | succ N ih =>
    intro l hN hs F A n cap w hF hl
    have HL := Lib.hid hl
    have HF := Lib.hid hF
    have IH := Lib.hid ih
    have hl1 : n ≤ l.length := Nat.le_of_eq hl.1
    have hl2 : l.length ≤ n := Nat.le_of_eq hl.1.symm
    have hll := len_le_size l
    clear hl hF ih
    go_enter Tryz.func71, Tryz.ntmps71
    go_wp2_with fail
    go_loopw [3, 4] (fun s3 s4 wr => ∃ k : Nat, k ≤ n ∧ s4 = .int .i64 (k : Nat) ∧ Below w.heap.size w wr ∧ LOwn wr (fun b => w.heap.size ≤ b ∧ b < wr.heap.size) (l.take k) s3) (fun _ s4 _ => n - (intOf s4).toNat)
    case atStart => exact ⟨0, by omega, rfl, Below.refl _ _, LOwn.nil _ _⟩
    case round =>
      obtain ⟨k, hk, rfl, hbz, hown⟩ := hrel
      have HBZ := Lib.hid hbz
      have HOWN := Lib.hid hown
      have HL2 := Lib.hid (HL.out.under hbz HF.out)
      have hws : w.heap.size ≤ wr.heap.size := hbz.size
      have htkl : (l.take k).length = k := by simp; omega
      have HTKL := Lib.hid htkl
      obtain ⟨A3, c3, h3⟩ := hown.form
      rw [htkl] at h3
      subst h3
      clear hbz hown htkl
      by_cases hlt : k < n
      · obtain ⟨x, hx⟩ : ∃ x, l[k]? = some x := ⟨l[k]'(by omega), List.getElem?_eq_getElem _⟩
        have hxm := sizeV_mem (List.mem_of_getElem? hx)
        have hxl := sizeL_list x
        obtain ⟨ad, sx, rfl, _, ⟨Bx, cx, rfl, _, hlx⟩, _, d0, d1, d2, d3, d4, d5⟩ := HL2.out.cellsAt hx
        have HC := Lib.hid (copy_step x Bx cx wr (F := F) (fun g hg => Nat.lt_of_lt_of_le (HF.out g hg) hws) hlx (fun w' h1 h2 => IH.out x.list (by omega) (by omega) F Bx _ cx w' h2 h1))
        have HX := Lib.hid hx
        have e1 : (0 : Int) ≤ k := by omega
        have e2 : (k : Int) < n := by omega
        clear hx hxm hxl hlx
        unfold cellsV at HC
        obtain ⟨lx, HLX⟩ := name_itV x.list.length
        rw [HLX.out] at d5 HC
        go_wp2_with fail
        refine HC.out.mono ?_
        rintro e w5 ⟨s', rfl, hb5, hl5⟩
        obtain ⟨A', cp', rfl⟩ := hl5.form
        unfold cellsV
        rw [HLX.out]
        have HL5 := Lib.hid hl5
        have HB5 := Lib.hid hb5
        obtain ⟨cs, Fs, hrow, h6, hFw, hFs, hdis, hr⟩ := HOWN.out.turn (Turn.of_below hb5) (fun b hb h => by omega)
        rw [HTKL.out] at hrow
        have HROW := Lib.hid hrow
        have hs5 : wr.heap.size ≤ w5.heap.size := hb5.size
        have HREST := Lib.hid (And.intro h6 (And.intro hFw (And.intro hFs (And.intro hdis hr))))
        rw [HLX.out] at HL5
        clear hb5 hl5 hrow h6 hFw hFs hdis hr
        go_wp2_with (at_builtin; refine app_new rfl _ _ 43 rfl 0 55 (.agg #[.int .i64 0, .bool false, .int .i64 0, .string ⟨#[]⟩, .string ⟨#[]⟩, .slice none 0 0]) 6 80 Tryz.underlying43 infoVal rfl (by decide) _ _ _ rfl HROW.out (Nat.zero_le _) _ 1 1 rfl rfl (one_val x A' lx cp') (by omega) (by omega) (by decide) ?_)
        intro g4 c4 w6 ho6 hg6 hl6
        have HO6 := Lib.hid ho6
        have HG6 := Lib.hid (show w5.grownBy w6 (Value.slice A3 k c3).ownBlock from hg6)
        have HL6 := Lib.hid (show (Value.slice A3 k c3).ownBlock = some g4 ∨ w5.heap.size ≤ g4 from hl6)
        clear ho6 hg6 hl6
        go_wp2_with fail
        go_roundw
        case rel =>
          obtain ⟨h6, hFw, hFs, hdis, hr⟩ := HREST.out
          have hxl5 := HL5.out
          rw [← HLX.out] at hxl5
          have ho6 := HO6.out
          have hg4 : g4 < w6.heap.size := (ho6.lt g4 rfl).2
          have hs6 : w5.heap.size ≤ w6.heap.size := HG6.out.size
          have hown4 : ∀ b, some b = (Value.slice A3 k c3).ownBlock → w.heap.size ≤ b := fun b hb => (hFw b hb.symm).1
          have hsn := own_snoc (w5 := w5) (w6 := w6) (F := fun b => w.heap.size ≤ b ∧ b < wr.heap.size) (G := fun b => wr.heap.size ≤ b ∧ b < w5.heap.size) (l := l.take k) (x := x) (s := .slice A3 k c3) (sx := .slice A' x.list.length cp') (g4 := g4) (c4 := c4) (cs := cs) (Fs := Fs) h6 hFw hFs hdis hr hxl5
            (fun b hb h => by obtain ⟨_, h1⟩ := hb; obtain ⟨h2, _⟩ := h; omega) (fun b hb => by obtain ⟨_, h1⟩ := hb; omega) (fun b hb => hb.2) (by
            rw [HTKL.out]
            unfold cellsV
            rw [HLX.out]
            exact ho6) HG6.out HL6.out
          rw [HTKL.out] at hsn
          refine ⟨k + 1, by omega, by go_num, (HBZ.out.trans (HB5.out.mono hws)).trans ((Turn.of_grown HG6.out).below (fun b _ hb => hown4 b hb) (by omega)), ?_⟩
          rw [take_oneMore HX.out]
          refine hsn.mono (fun b hb => ?_)
          rcases hb with hb | hb | hb
          · exact ⟨hb.1, by omega⟩
          · exact ⟨by omega, by omega⟩
          · subst hb
            refine ⟨?_, hg4⟩
            rcases HL6.out with h | h
            · exact hown4 b h.symm
            · omega
        case measure => simp [intOf]; omega
      · have hke : k = n := by omega
        subst hke
        have htk : l.take k = l := List.take_of_length_le (by omega)
        have HTK := Lib.hid htk
        clear htk
        go_wp2_with fail
        go_ret
        exact ⟨_, rfl, HBZ.out, by have h := HOWN.out; rw [HTK.out] at h; exact h⟩
end Go.Proofs.YtmhjbicbdahllaaGreatDoor
