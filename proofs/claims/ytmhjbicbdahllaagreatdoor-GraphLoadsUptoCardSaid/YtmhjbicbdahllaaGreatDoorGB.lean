/- slices.Sort at texts; 'node' and 'edge': in memory of their own, sorted. -/
import Derived.Test.YtmhjbicbdahllaaGreatDoorGA
import Derived.Shelf.Sort.Plain
import Derived.Shelf.Slices.In.SortNone
import Derived.Shelf.GgSortFunc.Compose
import Derived.Sort.KeysCollected
namespace Go.Proofs.YtmhjbicbdahllaaGreatDoor
open Go Go.RowKit Go.Shelf Go.Sort Go.Proofs

theorem sortedT_turn {w : World} {g n : Nat} {d : Array (List UInt8)} {os : Array Obj} : Turn (fun b => b = g) w (grow (putRow encStr (Sort.ahead w n) g 0 d) os) := by
  refine ⟨rfl, rfl, rfl, by simp, fun i hi hne => ?_⟩
  rw [heap_grow_old _ _ (by simpa using hi)]
  have : g ≠ i := fun e => hne e.symm
  simp [putRow, mapBlock, Sort.ahead, Array.getElem?_modify, this]

/-- The same texts, sorted. -/
def SrtT (l l' : List ByteArray) : Prop := l'.Perm l ∧ l'.Pairwise (fun a b => ¬ ordS b a < 0)
set_option maxRecDepth 100000 in
/-- Texts in a row of one's own, sorted. -/
theorem sortT_any {w : World} {F : Nat → Prop} {l : List ByteArray} {s : Value} (h : SOwn 9 1 TxR w F l s) (hlen : l.length ≤ 100000000) :
    Calls Tryz.prog 60 #[s] w fun e w' => e = .returned (.tuple #[]) ∧ ∃ l' : List ByteArray, SrtT l l' ∧ SlR 1 TxR w' F l' s ∧ Turn (fun b => s.ownBlock = some b) w w' := by
  obtain ⟨cs, hrow, h6, hFw, hr⟩ := h
  rcases hrow.2 with ⟨hs, h0⟩ | ⟨b, cap, cur, hs, _, hb, hcap, hcur, hcc, htake⟩
  · subst hs
    have hl0 : l = [] := List.eq_nil_of_length_eq_zero h0
    subst hl0
    refine (Any.slices_Sort_string_none Tryz.lays190 none 0 w).mono fun e w' ⟨he, hw⟩ => ⟨he, [], ⟨List.Perm.refl _, List.Pairwise.nil⟩, ?_, ?_⟩
    · rw [hw]; exact SlR.nil ..
    · rw [hw]; exact Turn.refl _ _
  · subst hs
    have hblt := blk_lt hb
    have hds : (l.map fun s => s.data.toList).toArray.size = l.length := by simp
    have hH : Holds encStr w b 0 (l.map fun s => s.data.toList).toArray := by
      intro j hj
      rw [hds] at hj
      refine ⟨?_, by simp [World.frozen?, hb]⟩
      have h2 := hrow.cellAt j (by omega)
      have h3 := flatC_at h6 hj (show 0 < 1 by omega)
      rw [Nat.mul_one, Nat.add_zero] at h3
      rw [h3, hr j _ (List.getElem?_eq_getElem hj)] at h2
      rw [Nat.zero_add, h2, getElem!_pos _ j (by simpa using hj)]
      simp [encStr]
    have hcon := Any.slices_Sort_string Tryz.lays190 b 0 cap (l.map fun s => s.data.toList) w hH hblt (by simp; omega)
    rw [List.length_map] at hcon
    refine hcon.mono fun e w' ⟨he, n, os, hw⟩ => ⟨he, ((l.map fun s => s.data.toList).mergeSort leB).map strK, ⟨?_, ?_⟩, ?_, ?_⟩
    · refine ((List.mergeSort_perm _ _).map strK).trans (List.Perm.of_eq ?_)
      rw [List.map_map]
      exact (List.map_congr_left (fun x _ => by simp [strK])).trans (List.map_id _)
    · rw [List.pairwise_map]
      have tr : ∀ a b c : List UInt8, leB a b = true → leB b c = true → leB a c = true := fun a b c h1 h2 => by simp only [leB, decide_eq_true_eq] at *; exact List.le_trans h1 h2
      have tot : ∀ a b : List UInt8, (leB a b || leB b a) = true := fun a b => by simp only [leB, Bool.or_eq_true, decide_eq_true_eq]; exact List.le_total a b
      refine (List.pairwise_mergeSort tr tot _).imp fun {a b} h => ?_
      rw [ordS_lt]
      simp only [leB, decide_eq_true_eq] at h
      simpa [strK, List.not_lt] using h
    · have hlm : ((l.map fun s => s.data.toList).mergeSort leB).length = l.length := by rw [List.length_mergeSort, List.length_map]
      have hH' : Holds encStr w' b 0 ((l.map fun s => s.data.toList).mergeSort leB).toArray := by rw [hw]; exact holds_sortWorld encStr w b 0 n _ _ os hblt hH (by simp)
      refine ⟨some ⟨b, 0, none⟩, cap, by simp, by simp; exact hcap, by simp, fun _ => ⟨_, rfl, hFw b rfl, fun i x hx => ⟨#[.string x], rfl, fun j hj => ?_, rfl⟩⟩⟩
      have hil := idx_lt hx
      rw [List.length_map, hlm] at hil
      obtain rfl : j = 0 := by omega
      have h2 := (hH' i (by simpa [hlm] using hil)).1
      rw [List.getElem?_map, List.getElem?_eq_getElem (by rw [hlm]; exact hil)] at hx
      injection hx with hx
      subst hx
      rw [Addr.add_lit, Nat.mul_one, Nat.add_zero, h2, getElem!_pos _ i (by simpa [hlm] using hil)]
      simp [encStr, strK]
    · rw [hw]
      exact sortedT_turn.mono fun i _ hi => by rw [hi]; rfl

/-- The same node, its labels and properties sorted. -/
def SrtN (n n' : NodeD) : Prop := n'.id = n.id ∧ SrtT n.labels n'.labels ∧ SrtP n.props n'.props
def NodeIs (n : NodeD) (w : World) (e : Ending) (w' : World) : Prop :=
  ∃ c n', e = .returned (.agg c) ∧ Below w.heap.size w w' ∧ SrtN n n' ∧ NoR w' (fun b => w.heap.size ≤ b ∧ b < w'.heap.size) n' c
def SrtE (e e' : EdgeD) : Prop := e'.id = e.id ∧ e'.src = e.src ∧ e'.dst = e.dst ∧ e'.type = e.type ∧ SrtP e.props e'.props
def EdgeIs (x : EdgeD) (w : World) (e : Ending) (w' : World) : Prop :=
  ∃ c x', e = .returned (.agg c) ∧ Below w.heap.size w w' ∧ SrtE x x' ∧ EdR w' (fun b => w.heap.size ≤ b ∧ b < w'.heap.size) x' c
/-- No part of a node is too great for the machine, and its values' lists hold no lists. -/
def FitN (n : NodeD) : Prop := n.labels.length ≤ 2000000 ∧ n.props.length ≤ 2000000 ∧ (∀ s, s ∈ n.labels → s.size ≤ 2000000) ∧ ∀ p, p ∈ n.props → FitP p
def FlatN (n : NodeD) : Prop := ∀ p, p ∈ n.props → FlatP p
def FitE (x : EdgeD) : Prop := x.type.size ≤ 2000000 ∧ x.props.length ≤ 2000000 ∧ ∀ p, p ∈ x.props → FitP p
def FlatE (x : EdgeD) : Prop := ∀ p, p ∈ x.props → FlatP p
/-- Texts lead to nothing: what a row of them rests on is the row. -/
theorem SOwn.tx {w : World} {F F' : Nat → Prop} {l : List ByteArray} {s : Value} {E : Nat} (h : SOwn E 1 TxR w F l s) (hF : ∀ g, s.ownBlock = some g → F' g) : SOwn E 1 TxR w F' l s := by
  obtain ⟨cs, h1, h2, _, h4⟩ := h
  exact ⟨cs, h1, h2, hF, h4⟩

set_option maxRecDepth 100000 in
set_option maxHeartbeats 2000000 in
theorem node_any (n : NodeD) (hfit : FitN n) (hflat : FlatN n) (F : Nat → Prop) (c : Array Value) (w : World) (hF : ∀ g, F g → g < w.heap.size) (hn : NoR w F n c) :
    Calls Tryz.prog 31 #[.agg c] w (NodeIs n w) := by
  obtain ⟨L, P, rfl, ⟨A1, c1, rfl, hc1, hl1⟩, A2, c2, rfl, hc2, hl2⟩ := hn
  have HF := Lib.hid hF
  have HL1 := Lib.hid hl1
  have HL2 := Lib.hid hl2
  have HFIT := Lib.hid hfit
  have HFLAT := Lib.hid hflat
  obtain ⟨id, Hid⟩ := name_itV n.id
  rw [Hid.out]
  obtain ⟨m1, Hm1⟩ := name_itV n.labels.length
  obtain ⟨m2, Hm2⟩ := name_itV n.props.length
  rw [Hm1.out] at HL1 ⊢
  rw [Hm2.out] at HL2 ⊢
  have hm1 : m1 ≤ 2000000 := by rw [← Hm1.out]; exact hfit.1
  clear hF hl1 hl2 hfit hflat hc1 hc2
  obtain ⟨z, HZ⟩ := name_itV w.heap.size
  obtain ⟨W2, HW2⟩ := name_itV ((w.alloc (.cells #[.int .i64 id, .slice A1 m1 c1, .slice A2 m2 c2] 38)).alloc (.cells #[.int .i64 0, .slice none 0 0, .slice none 0 0] 38))
  have HB2 := Lib.hid (show Below w.heap.size w W2 from by rw [← HW2.out]; exact two_new w _ _)
  have HS2 := Lib.hid (show W2.heap.size = z + 2 from by rw [← HW2.out, ← HZ.out]; simp)
  have HK1 := Lib.hid (show W2.heap[z]? = some (.cells #[.int .i64 id, .slice A1 m1 c1, .slice A2 m2 c2] 38 (0, 0)) from by
    rw [← HW2.out, ← HZ.out, Below.heap_alloc _ _ _ (by simp)]
    exact heap_alloc_new w _)
  have HK2 := Lib.hid (show W2.heap[z + 1]? = some (.cells #[.int .i64 0, .slice none 0 0, .slice none 0 0] 38 (0, 0)) from by
    rw [← HW2.out, ← HZ.out]
    have := heap_alloc_new (w.alloc (.cells #[.int .i64 id, .slice A1 m1 c1, .slice A2 m2 c2] 38)) (.cells #[.int .i64 0, .slice none 0 0, .slice none 0 0] 38)
    simpa using this)
  have HC := Lib.hid (cloneT_any n.labels F A1 m1 c1 (by omega) W2 (fun g hg => by have := HF.out g hg; have := HB2.out.size; omega) (HL1.out.under TxR.good HB2.out HF.out))
  have b1 : W2.cell? ⟨z, 1, none⟩ = some (.slice A1 m1 c1) := Lib.cell_of_heap HK1.out 1
  go_enter Tryz.func31, Tryz.ntmps31
  go_upto_region 1 with fail
  rw [HW2.out, HZ.out]
  go_wp2_with fail
  refine HC.out.mono ?_
  rintro e w3 ⟨s3, rfl, hb3, ho3, hs3⟩
  obtain ⟨A3, c3, rfl⟩ := ho3.form
  rw [Hm1.out] at ho3 hs3 ⊢
  have HB3 := Lib.hid hb3
  have HO3 := Lib.hid (ho3.tx (F' := fun b => W2.heap.size ≤ b ∧ b < w3.heap.size) (fun g hg => ⟨hs3 g hg, by obtain ⟨cs, h1, _⟩ := ho3; exact (h1.lt g hg).2⟩))
  have HK13 := Lib.hid ((hb3.block z (by rw [HS2.out]; omega)).trans HK1.out)
  have HK23 := Lib.hid ((hb3.block (z + 1) (by rw [HS2.out]; omega)).trans HK2.out)
  have hz3 : z + 2 ≤ w3.heap.size := by have := hb3.size; have := HS2.out; omega
  clear hb3 ho3 hs3 b1
  have d1 : w3.cell? ⟨z, 1, none⟩ = some (.slice A1 m1 c1) := Lib.cell_of_heap HK13.out 1
  have f1 : w3.frozen? ⟨z, 1, none⟩ = false := Lib.frozen_of_heap HK13.out 1
  go_upto_region 2 with fail
  obtain ⟨w4, HW4⟩ := name_itV (w3.setCell ⟨z, 1, none⟩ (.slice A3 m1 c3))
  have HT4 := Lib.hid (show Turn (fun b => b = z) w3 w4 from by rw [← HW4.out]; exact (Turn.refl (fun b => b = z) w3).setCell (p := ⟨z, 1, none⟩) (.inr rfl) _)
  have HK14 := Lib.hid (show w4.heap[z]? = some (.cells #[.int .i64 id, .slice A3 m1 c3, .slice A2 m2 c2] 38 (0, 0)) from by rw [← HW4.out]; exact heap_setCell_same w3 z 1 _ _ _ HK13.out)
  have HK24 := Lib.hid ((HT4.out.block (z + 1) (by omega) (by omega)).trans HK23.out)
  have HO4 := Lib.hid (HO3.out.turn TxR.good HT4.out (fun b hb => hb.2) (fun b hb e => by have := hb.1; have := HS2.out; omega))
  have HS := Lib.hid (sortT_any HO4.out (by rw [Hm1.out]; omega))
  rw [HW4.out]
  have g1 : w4.cell? ⟨z, 1, none⟩ = some (.slice A3 m1 c3) := Lib.cell_of_heap HK14.out 1
  clear d1 f1
  go_wp2_with fail
  refine HS.out.mono ?_
  rintro e w5 ⟨rfl, labels, hsrt, hr5, ht5⟩
  have hown : ∀ b, (Value.slice A3 m1 c3).ownBlock = some b → W2.heap.size ≤ b := fun b hb => by obtain ⟨cs, _, _, hFw, _⟩ := HO4.out; exact (hFw b hb).1
  have HOW := Lib.hid hown
  have HSRT := Lib.hid hsrt
  have HR5 := Lib.hid hr5
  have HT5 := Lib.hid ht5
  have hs34 : w3.heap.size ≤ w4.heap.size := HT4.out.size
  have hs45 : w4.heap.size ≤ w5.heap.size := ht5.size
  have HK15 := Lib.hid ((ht5.block z (by omega) (fun h => by have := hown z h; have := HS2.out; omega)).trans HK14.out)
  have HK25 := Lib.hid ((ht5.block (z + 1) (by omega) (fun h => by have := hown (z + 1) h; have := HS2.out; omega)).trans HK24.out)
  have HB5 := Lib.hid (show Below w.heap.size w w5 from
    ((HB2.out.trans (HB3.out.mono HB2.out.size)).trans (HT4.out.below (fun i _ hi => by have := HZ.out; omega) (by have := HZ.out; omega))).trans (ht5.below (fun i _ hi => by have := hown i hi; have := HS2.out; have := HZ.out; omega) (by have := HZ.out; omega)))
  have HP := Lib.hid (pairs_any n.props (fun p hp => ⟨HFIT.out.2.2.2 p hp, HFLAT.out p hp⟩) HFIT.out.2.1 F A2 m2 c2 w5 (fun g hg => Nat.lt_of_lt_of_le (HF.out g hg) HB5.out.size) (HL2.out.under PaR.good HB5.out HF.out))
  have g2 : w5.cell? ⟨z, 2, none⟩ = some (.slice A2 m2 c2) := Lib.cell_of_heap HK15.out 2
  clear hsrt hr5 ht5 hown g1
  go_wp2_with fail
  refine HP.out.mono ?_
  rintro e w6 ⟨s6, rfl, hb6, props, hsp, A6, c6, rfl, hc6, hr6⟩
  obtain ⟨m6, Hm6⟩ := name_itV props.length
  rw [Hm6.out] at hr6 hc6 ⊢
  have HB6 := Lib.hid hb6
  have HSP := Lib.hid hsp
  have HR6 := Lib.hid (And.intro hc6 hr6)
  have hs56 : w5.heap.size ≤ w6.heap.size := hb6.size
  have HK16 := Lib.hid ((hb6.block z (by omega)).trans HK15.out)
  have HK26 := Lib.hid ((hb6.block (z + 1) (by omega)).trans HK25.out)
  have g2 : w6.cell? ⟨z, 2, none⟩ = some (.slice A2 m2 c2) := Lib.cell_of_heap HK16.out 2
  have f2 : w6.frozen? ⟨z, 2, none⟩ = false := Lib.frozen_of_heap HK16.out 2
  clear hb6 hsp hc6 hr6
  go_upto_region 4 with fail
  obtain ⟨w7, HW7⟩ := name_itV (w6.setCell ⟨z, 2, none⟩ (.slice A6 m6 c6))
  have HT7 := Lib.hid (show Turn (fun b => b = z) w6 w7 from by rw [← HW7.out]; exact (Turn.refl (fun b => b = z) w6).setCell (p := ⟨z, 2, none⟩) (.inr rfl) _)
  have HK17 := Lib.hid (show w7.heap[z]? = some (.cells #[.int .i64 id, .slice A3 m1 c3, .slice A6 m6 c6] 38 (0, 0)) from by rw [← HW7.out]; exact heap_setCell_same w6 z 2 _ _ _ HK16.out)
  have HK27 := Lib.hid ((HT7.out.block (z + 1) (by omega) (by omega)).trans HK26.out)
  rw [HW7.out]
  have g0 : w7.cell? ⟨z, 0, none⟩ = some (.int .i64 id) := Lib.cell_of_heap HK17.out 0
  have g1 : w7.cell? ⟨z, 1, none⟩ = some (.slice A3 m1 c3) := Lib.cell_of_heap HK17.out 1
  have g2 : w7.cell? ⟨z, 2, none⟩ = some (.slice A6 m6 c6) := Lib.cell_of_heap HK17.out 2
  have r0 : w7.cell? ⟨z + 1, 0, none⟩ = some (.int .i64 0) := Lib.cell_of_heap HK27.out 0
  have y0 : w7.frozen? ⟨z + 1, 0, none⟩ = false := Lib.frozen_of_heap HK27.out 0
  have r1 : w7.cell? ⟨z + 1, 1, none⟩ = some (.slice none 0 0) := Lib.cell_of_heap HK27.out 1
  have y1 : w7.frozen? ⟨z + 1, 1, none⟩ = false := Lib.frozen_of_heap HK27.out 1
  have r2 : w7.cell? ⟨z + 1, 2, none⟩ = some (.slice none 0 0) := Lib.cell_of_heap HK27.out 2
  have y2 : w7.frozen? ⟨z + 1, 2, none⟩ = false := Lib.frozen_of_heap HK27.out 2
  go_wp2_with fail
  obtain ⟨w9, HW9⟩ := name_itV (((w7.setCell ⟨z + 1, 0, none⟩ (.int .i64 id)).setCell ⟨z + 1, 1, none⟩ (.slice A3 m1 c3)).setCell ⟨z + 1, 2, none⟩ (.slice A6 m6 c6))
  have hz9 : w9.heap[z + 1]? = some (.cells #[.int .i64 id, .slice A3 m1 c3, .slice A6 m6 c6] 38 (0, 0)) := by
    rw [← HW9.out]
    exact heap_setCell_same _ (z + 1) 2 _ _ _ (heap_setCell_same _ (z + 1) 1 _ _ _ (heap_setCell_same _ (z + 1) 0 _ _ _ HK27.out))
  have HT9 := Lib.hid (show Turn (fun b => b = z ∨ b = z + 1) w6 w9 from by
    rw [← HW9.out]
    exact (((HT7.out.mono (S' := fun b => b = z ∨ b = z + 1) (fun i _ h => .inl h)).setCell (p := ⟨z + 1, 0, none⟩) (.inr (.inr rfl)) _).setCell (p := ⟨z + 1, 1, none⟩) (.inr (.inr rfl)) _).setCell (p := ⟨z + 1, 2, none⟩) (.inr (.inr rfl)) _)
  rw [HW9.out]
  have q0 : w9.cell? ⟨z + 1, 0, none⟩ = some (.int .i64 id) := Lib.cell_of_heap hz9 0
  have q1 : w9.cell? ⟨z + 1, 1, none⟩ = some (.slice A3 m1 c3) := Lib.cell_of_heap hz9 1
  have q2 : w9.cell? ⟨z + 1, 2, none⟩ = some (.slice A6 m6 c6) := Lib.cell_of_heap hz9 2
  clear hz9 r0 r1 r2 y0 y1 y2 g0 g1 g2 f2
  go_wp2_with fail
  refine bodyPost_ret (v := .agg #[.int .i64 id, .slice A3 m1 c3, .slice A6 m6 c6]) (by simp [results, Tryz.results31, go_sem, q0, q1, q2]) rfl ⟨_, ⟨id, labels, props⟩, rfl, ?_, ⟨Hid.out.symm, HSRT.out, HSP.out⟩, _, _, rfl, ?_, ?_⟩
  · exact (HB5.out.trans (HB6.out.mono HB5.out.size)).trans (HT9.out.below (fun i _ h => by have := HZ.out; omega) (by have := HZ.out; omega))
  · have hk : ∀ p : Addr, W2.heap.size ≤ p.block ∧ p.block < w3.heap.size → w9.cell? p = w5.cell? p := fun p hp =>
      (HT9.out.cell (by omega) (fun h => by have := hp.1; have := HS2.out; omega)).trans (HB6.out.cell (by omega))
    refine SlR.mono TxR.good (SlR.keep TxR.good HR5.out hk) (fun b hb => ⟨?_, ?_⟩)
    · have := hb.1; have := HS2.out; have := HZ.out; omega
    · have := hb.2; have := HT9.out.size; omega
  · obtain ⟨hc6, hr6⟩ := HR6.out
    have hk : ∀ p : Addr, w5.heap.size ≤ p.block ∧ p.block < w6.heap.size → w9.cell? p = w6.cell? p := fun p hp =>
      HT9.out.cell hp.2 (fun h => by have := hp.1; omega)
    refine SlR.mono PaR.good (SlR.keep (s := .slice A6 m6 c6) PaR.good ⟨A6, c6, by rw [Hm6.out], by rw [Hm6.out]; exact hc6, by rw [Hm6.out]; exact hr6⟩ hk) (fun b hb => ⟨?_, ?_⟩)
    · have := hb.1; have := HZ.out; omega
    · have := hb.2; have := HT9.out.size; omega

set_option maxRecDepth 100000 in
set_option maxHeartbeats 2000000 in
theorem edge_any (x : EdgeD) (hfit : FitE x) (hflat : FlatE x) (F : Nat → Prop) (c : Array Value) (w : World) (hF : ∀ g, F g → g < w.heap.size) (hn : EdR w F x c) :
    Calls Tryz.prog 33 #[.agg c] w (EdgeIs x w) := by
  obtain ⟨P, rfl, A2, c2, rfl, hc2, hl2⟩ := hn
  have HF := Lib.hid hF
  have HL2 := Lib.hid hl2
  have HFIT := Lib.hid hfit
  have HFLAT := Lib.hid hflat
  obtain ⟨id, Hid⟩ := name_itV x.id
  obtain ⟨src, Hsrc⟩ := name_itV x.src
  obtain ⟨dst, Hdst⟩ := name_itV x.dst
  obtain ⟨typ, Htyp⟩ := name_itV x.type
  obtain ⟨m2, Hm2⟩ := name_itV x.props.length
  rw [Hm2.out] at HL2
  rw [Hid.out, Hsrc.out, Hdst.out, Htyp.out, Hm2.out]
  clear hF hl2 hfit hflat hc2
  obtain ⟨z, HZ⟩ := name_itV w.heap.size
  obtain ⟨W2, HW2⟩ := name_itV ((w.alloc (.cells #[.int .i64 id, .int .i64 src, .int .i64 dst, .string typ, .slice A2 m2 c2] 41)).alloc (.cells #[.int .i64 0, .int .i64 0, .int .i64 0, .string ⟨#[]⟩, .slice none 0 0] 41))
  have HB2 := Lib.hid (show Below w.heap.size w W2 from by rw [← HW2.out]; exact two_new w _ _)
  have HS2 := Lib.hid (show W2.heap.size = z + 2 from by rw [← HW2.out, ← HZ.out]; simp)
  have HK1 := Lib.hid (show W2.heap[z]? = some (.cells #[.int .i64 id, .int .i64 src, .int .i64 dst, .string typ, .slice A2 m2 c2] 41 (0, 0)) from by
    rw [← HW2.out, ← HZ.out, Below.heap_alloc _ _ _ (by simp)]
    exact heap_alloc_new w _)
  have HK2 := Lib.hid (show W2.heap[z + 1]? = some (.cells #[.int .i64 0, .int .i64 0, .int .i64 0, .string ⟨#[]⟩, .slice none 0 0] 41 (0, 0)) from by
    rw [← HW2.out, ← HZ.out]
    have := heap_alloc_new (w.alloc (.cells #[.int .i64 id, .int .i64 src, .int .i64 dst, .string typ, .slice A2 m2 c2] 41)) (.cells #[.int .i64 0, .int .i64 0, .int .i64 0, .string ⟨#[]⟩, .slice none 0 0] 41)
    simpa using this)
  have HP := Lib.hid (pairs_any x.props (fun p hp => ⟨HFIT.out.2.2 p hp, HFLAT.out p hp⟩) HFIT.out.2.1 F A2 m2 c2 W2 (fun g hg => by have := HF.out g hg; have := HB2.out.size; omega) (HL2.out.under PaR.good HB2.out HF.out))
  have b4 : W2.cell? ⟨z, 4, none⟩ = some (.slice A2 m2 c2) := Lib.cell_of_heap HK1.out 4
  go_enter Tryz.func33, Tryz.ntmps33
  go_upto_region 1 with fail
  rw [HW2.out, HZ.out]
  go_wp2_with fail
  refine HP.out.mono ?_
  rintro e w6 ⟨s6, rfl, hb6, props, hsp, A6, c6, rfl, hc6, hr6⟩
  obtain ⟨m6, Hm6⟩ := name_itV props.length
  rw [Hm6.out] at hr6 hc6 ⊢
  have HB6 := Lib.hid hb6
  have HSP := Lib.hid hsp
  have HR6 := Lib.hid (And.intro hc6 hr6)
  have hs26 : W2.heap.size ≤ w6.heap.size := hb6.size
  have HK16 := Lib.hid ((hb6.block z (by rw [HS2.out]; omega)).trans HK1.out)
  have HK26 := Lib.hid ((hb6.block (z + 1) (by rw [HS2.out]; omega)).trans HK2.out)
  have g4 : w6.cell? ⟨z, 4, none⟩ = some (.slice A2 m2 c2) := Lib.cell_of_heap HK16.out 4
  have f4 : w6.frozen? ⟨z, 4, none⟩ = false := Lib.frozen_of_heap HK16.out 4
  clear hb6 hsp hc6 hr6 b4
  go_upto_region 2 with fail
  obtain ⟨w7, HW7⟩ := name_itV (w6.setCell ⟨z, 4, none⟩ (.slice A6 m6 c6))
  have HT7 := Lib.hid (show Turn (fun b => b = z) w6 w7 from by rw [← HW7.out]; exact (Turn.refl (fun b => b = z) w6).setCell (p := ⟨z, 4, none⟩) (.inr rfl) _)
  have HK17 := Lib.hid (show w7.heap[z]? = some (.cells #[.int .i64 id, .int .i64 src, .int .i64 dst, .string typ, .slice A6 m6 c6] 41 (0, 0)) from by rw [← HW7.out]; exact heap_setCell_same w6 z 4 _ _ _ HK16.out)
  have HK27 := Lib.hid ((HT7.out.block (z + 1) (by have := HS2.out; omega) (by omega)).trans HK26.out)
  rw [HW7.out]
  have g0 : w7.cell? ⟨z, 0, none⟩ = some (.int .i64 id) := Lib.cell_of_heap HK17.out 0
  have g1 : w7.cell? ⟨z, 1, none⟩ = some (.int .i64 src) := Lib.cell_of_heap HK17.out 1
  have g2 : w7.cell? ⟨z, 2, none⟩ = some (.int .i64 dst) := Lib.cell_of_heap HK17.out 2
  have g3 : w7.cell? ⟨z, 3, none⟩ = some (.string typ) := Lib.cell_of_heap HK17.out 3
  have r0 : w7.cell? ⟨z + 1, 0, none⟩ = some (.int .i64 0) := Lib.cell_of_heap HK27.out 0
  have y0 : w7.frozen? ⟨z + 1, 0, none⟩ = false := Lib.frozen_of_heap HK27.out 0
  have r1 : w7.cell? ⟨z + 1, 1, none⟩ = some (.int .i64 0) := Lib.cell_of_heap HK27.out 1
  have y1 : w7.frozen? ⟨z + 1, 1, none⟩ = false := Lib.frozen_of_heap HK27.out 1
  have r2 : w7.cell? ⟨z + 1, 2, none⟩ = some (.int .i64 0) := Lib.cell_of_heap HK27.out 2
  have y2 : w7.frozen? ⟨z + 1, 2, none⟩ = false := Lib.frozen_of_heap HK27.out 2
  have r3 : w7.cell? ⟨z + 1, 3, none⟩ = some (.string ⟨#[]⟩) := Lib.cell_of_heap HK27.out 3
  have y3 : w7.frozen? ⟨z + 1, 3, none⟩ = false := Lib.frozen_of_heap HK27.out 3
  have r4 : w7.cell? ⟨z + 1, 4, none⟩ = some (.slice none 0 0) := Lib.cell_of_heap HK27.out 4
  have y4 : w7.frozen? ⟨z + 1, 4, none⟩ = false := Lib.frozen_of_heap HK27.out 4
  clear g4 f4
  have g4 : w7.cell? ⟨z, 4, none⟩ = some (.slice A6 m6 c6) := Lib.cell_of_heap HK17.out 4
  go_wp2_with fail
  obtain ⟨w9, HW9⟩ := name_itV ((((((w7.setCell ⟨z + 1, 0, none⟩ (.int .i64 id)).setCell ⟨z + 1, 1, none⟩ (.int .i64 src)).setCell ⟨z + 1, 2, none⟩ (.int .i64 dst)).setCell ⟨z + 1, 3, none⟩ (.string typ)).setCell ⟨z + 1, 4, none⟩ (.slice A6 m6 c6)))
  have hz9 : w9.heap[z + 1]? = some (.cells #[.int .i64 id, .int .i64 src, .int .i64 dst, .string typ, .slice A6 m6 c6] 41 (0, 0)) := by
    rw [← HW9.out]
    exact (heap_setCell_same _ (z + 1) 4 _ _ _ (heap_setCell_same _ (z + 1) 3 _ _ _ (heap_setCell_same _ (z + 1) 2 _ _ _ (heap_setCell_same _ (z + 1) 1 _ _ _ (heap_setCell_same _ (z + 1) 0 _ _ _ HK27.out)))))
  have HT9 := Lib.hid (show Turn (fun b => b = z ∨ b = z + 1) w6 w9 from by
    rw [← HW9.out]
    exact ((((((HT7.out.mono (S' := fun b => b = z ∨ b = z + 1) (fun i _ h => .inl h)).setCell (p := ⟨z + 1, 0, none⟩) (.inr (.inr rfl)) _).setCell (p := ⟨z + 1, 1, none⟩) (.inr (.inr rfl)) _).setCell (p := ⟨z + 1, 2, none⟩) (.inr (.inr rfl)) _).setCell (p := ⟨z + 1, 3, none⟩) (.inr (.inr rfl)) _).setCell (p := ⟨z + 1, 4, none⟩) (.inr (.inr rfl)) _))
  rw [HW9.out]
  have q0 : w9.cell? ⟨z + 1, 0, none⟩ = some (.int .i64 id) := Lib.cell_of_heap hz9 0
  have q1 : w9.cell? ⟨z + 1, 1, none⟩ = some (.int .i64 src) := Lib.cell_of_heap hz9 1
  have q2 : w9.cell? ⟨z + 1, 2, none⟩ = some (.int .i64 dst) := Lib.cell_of_heap hz9 2
  have q3 : w9.cell? ⟨z + 1, 3, none⟩ = some (.string typ) := Lib.cell_of_heap hz9 3
  have q4 : w9.cell? ⟨z + 1, 4, none⟩ = some (.slice A6 m6 c6) := Lib.cell_of_heap hz9 4
  clear hz9 r0 y0 g0 r1 y1 g1 r2 y2 g2 r3 y3 g3 r4 y4 g4
  go_wp2_with fail
  refine bodyPost_ret (v := .agg #[.int .i64 id, .int .i64 src, .int .i64 dst, .string typ, .slice A6 m6 c6]) (by simp [results, Tryz.results33, go_sem, q0, q1, q2, q3, q4]) rfl ⟨_, ⟨id, src, dst, typ, props⟩, rfl, ?_, ⟨Hid.out.symm, Hsrc.out.symm, Hdst.out.symm, Htyp.out.symm, HSP.out⟩, _, rfl, ?_⟩
  · exact (HB2.out.trans (HB6.out.mono HB2.out.size)).trans (HT9.out.below (fun i _ h => by have := HZ.out; omega) (by have := HZ.out; have := HS2.out; omega))
  · obtain ⟨hc6, hr6⟩ := HR6.out
    have hk : ∀ p : Addr, W2.heap.size ≤ p.block ∧ p.block < w6.heap.size → w9.cell? p = w6.cell? p := fun p hp =>
      HT9.out.cell hp.2 (fun h => by have := hp.1; have := HS2.out; omega)
    refine SlR.mono PaR.good (SlR.keep (s := .slice A6 m6 c6) PaR.good ⟨A6, c6, by rw [Hm6.out], by rw [Hm6.out]; exact hc6, by rw [Hm6.out]; exact hr6⟩ hk) (fun b hb => ⟨?_, ?_⟩)
    · have := hb.1; have := HZ.out; have := HS2.out; omega
    · have := hb.2; have := HT9.out.size; omega
end Go.Proofs.YtmhjbicbdahllaaGreatDoor
