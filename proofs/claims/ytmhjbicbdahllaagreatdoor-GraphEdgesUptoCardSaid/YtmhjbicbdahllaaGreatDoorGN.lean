/- 'Plain': the graph of a store, copied. -/
import Derived.Test.YtmhjbicbdahllaaGreatDoorGM
namespace Go.Proofs.YtmhjbicbdahllaaGreatDoor
open Go Go.RowKit

/-- A row with one more element, stored into a cell of another block. -/
theorem row_put {α : Type} {R : Lies α} (hR : R.Good) {E sz q j lo k : Nat} {w5 w6 w7 : World} {xs : List α} {A3 : Option Addr} {c3 : Nat} {cs : Nat → Array Value} {x : α} {c : Array Value} {g7 c7 : Nat}
    (hq : q < lo) (hlo : lo ≤ w5.heap.size) (hlen : xs.length = k) (hF : ∀ b, (Value.slice A3 k c3).ownBlock = some b → lo ≤ b ∧ b < w5.heap.size) (hsz : ∀ i, i < k → (cs i).size = sz) (hr : ∀ i x, xs[i]? = some x → R w5 (fun b => (lo ≤ b ∧ b < w5.heap.size) ∧ (Value.slice A3 k c3).ownBlock ≠ some b) x (cs i))
    (hb6 : Below w5.heap.size w5 w6) (hno : R w6 (fun b => w5.heap.size ≤ b ∧ b < w6.heap.size) x c) (hc : c.size = sz) (hg : w6.grownBy w7 (Value.slice A3 k c3).ownBlock) (hl : (Value.slice A3 k c3).ownBlock = some g7 ∨ g7 = w6.heap.size + 1)
    (ho : w7.ownsRow 0 E sz (.slice (some ⟨g7, 0, none⟩) (k + 1) c7) (k + 1) (flatC cs k ++ c.toList)) :
    SOwn E sz R (w7.setCell ⟨q, j, none⟩ (.slice (some ⟨g7, 0, none⟩) (k + 1) c7)) (fun b => lo ≤ b ∧ b < (w7.setCell ⟨q, j, none⟩ (.slice (some ⟨g7, 0, none⟩) (k + 1) c7)).heap.size) (xs ++ [x]) (.slice (some ⟨g7, 0, none⟩) (k + 1) c7) ∧
      Turn (fun b => some b = (Value.slice A3 k c3).ownBlock ∨ b = q) w6 (w7.setCell ⟨q, j, none⟩ (.slice (some ⟨g7, 0, none⟩) (k + 1) c7)) := by
  have hs6 : w5.heap.size ≤ w6.heap.size := hb6.size
  have hs7 : w6.heap.size ≤ w7.heap.size := hg.size
  have hg7 : g7 < w7.heap.size := (ho.lt g7 rfl).2
  have hsn := own_more (w5 := w6) (w6 := w7) (R := R) (E := E) (sz := sz) (F := fun b => lo ≤ b ∧ b < w5.heap.size) (G := fun b => w5.heap.size ≤ b ∧ b < w6.heap.size) (l := xs) (x := x) (s := .slice A3 k c3) (c := c) (g4 := g7) (c4 := c7) (cs := cs) hR
    (fun i hi => hsz i (by omega)) (fun i y hy => hR.keep (hr i y hy) (fun p hp => hb6.cell (by have := hp.1.2; omega))) hno hc (fun b hb e => by have := (hF b e).2; have := hb.1; omega) (fun b hb => by have := hb.2; omega) (fun b hb => hb.2) (by rw [hlen]; exact ho) hg (by rcases hl with e | e; exact .inl e; exact .inr (by omega))
  rw [hlen] at hsn
  have hT : Turn (fun b => some b = (Value.slice A3 k c3).ownBlock ∨ b = q) w6 (w7.setCell ⟨q, j, none⟩ (.slice (some ⟨g7, 0, none⟩) (k + 1) c7)) :=
    ((Turn.of_grown hg).mono (fun b _ hb => .inl hb)).trans (((Turn.refl (fun b => b = q) w7).setCell (p := ⟨q, j, none⟩) (.inr rfl) _).mono (fun b _ hb => .inr hb))
  refine ⟨(hsn.turn hR ((Turn.refl (fun b => b = q) w7).setCell (p := ⟨q, j, none⟩) (.inr rfl) _) (fun b hb => ?_) (fun b hb e => ?_)).mono hR (fun b hb => ?_), hT⟩
  · rcases hb with hb | hb | hb
    · omega
    · omega
    · omega
  · rcases hb with hb | hb | hb
    · omega
    · omega
    · rcases hl with h1 | h1
      · have := (hF g7 h1).1; omega
      · omega
  · show lo ≤ b ∧ b < (w7.setCell _ _).heap.size
    simp only [World.size_setCell]
    rcases hb with hb | hb | hb
    · omega
    · omega
    · rcases hl with h1 | h1
      · have := (hF g7 h1).1; omega
      · omega
/-- What 'Plain' holds behind some nodes. -/
structure Pl1 (w : World) (z : Nat) (ns : List NodeD) (Ns : Value) (wr : World) : Prop where
  below : Below z w wr
  res : wr.heap[z]? = some (.cells #[.slice none 0 0, .slice none 0 0] 25 (0, 0))
  box : wr.heap[z + 1]? = some (.cells #[Ns, .slice none 0 0] 25 (0, 0))
  own : SOwn 38 3 NoR wr (fun b => z + 2 ≤ b ∧ b < wr.heap.size) ns Ns
/-- .. behind some edges. -/
structure Pl2 (w : World) (z z2 : Nat) (ns : List NodeD) (es : List EdgeD) (Ns Es : Value) (wr : World) : Prop where
  below : Below z w wr
  res : wr.heap[z]? = some (.cells #[.slice none 0 0, .slice none 0 0] 25 (0, 0))
  box : wr.heap[z + 1]? = some (.cells #[Ns, Es] 25 (0, 0))
  nodes : SOwn 38 3 NoR wr (fun b => z + 2 ≤ b ∧ b < z2) ns Ns
  own : SOwn 41 5 EdR wr (fun b => z2 ≤ b ∧ b < wr.heap.size) es Es
  loc : z + 2 ≤ z2 ∧ z2 ≤ wr.heap.size
section
variable {w : World} {z z2 : Nat} {ns : List NodeD} {es : List EdgeD} {Ns Es : Value} {wr w2 : World}
theorem Pl1.on (h : Pl1 w z ns Ns wr) (hb : Below wr.heap.size wr w2) : Pl1 w z ns Ns w2 := by
  have hz := blk_lt h.box
  exact ⟨h.below.trans (hb.mono (by omega)), (hb.block _ (by omega)).trans h.res, (hb.block _ hz).trans h.box, (h.own.turn NoR.good (Turn.of_below hb) (fun b hb => hb.2) (fun b hb h => by omega)).mono NoR.good (fun b hb2 => ⟨hb2.1, Nat.lt_of_lt_of_le hb2.2 hb.size⟩)⟩
theorem Pl2.on (h : Pl2 w z z2 ns es Ns Es wr) (hb : Below wr.heap.size wr w2) : Pl2 w z z2 ns es Ns Es w2 := by
  have hz := blk_lt h.box
  have hl := h.loc
  exact ⟨h.below.trans (hb.mono (by omega)), (hb.block _ (by omega)).trans h.res, (hb.block _ hz).trans h.box, h.nodes.turn NoR.good (Turn.of_below hb) (fun b hb => by omega) (fun b hb h => by omega),
    (h.own.turn EdR.good (Turn.of_below hb) (fun b hb => hb.2) (fun b hb h => by omega)).mono EdR.good (fun b hb2 => ⟨hb2.1, Nat.lt_of_lt_of_le hb2.2 hb.size⟩), hl.1, Nat.le_trans hl.2 hb.size⟩
theorem Pl1.next (h : Pl1 w z ns Ns wr) : Pl2 w z wr.heap.size ns [] Ns (.slice none 0 0) wr := by
  have hz := blk_lt h.box
  exact ⟨h.below, h.res, h.box, h.own, SOwn.nil .., by omega, Nat.le_refl _⟩
end
theorem Pl1.more {w : World} {z k : Nat} {ns : List NodeD} {A3 : Option Addr} {c3 : Nat} {w5 w6 w7 : World} {cs : Nat → Array Value} {n' : NodeD} {c : Array Value} {g7 c7 : Nat}
    (h : Pl1 w z ns (.slice A3 k c3) w5) (hlen : ns.length = k) (hF : ∀ b, (Value.slice A3 k c3).ownBlock = some b → z + 2 ≤ b ∧ b < w5.heap.size) (h3c : ∀ i, i < k → (cs i).size = 3) (hr : ∀ i x, ns[i]? = some x → NoR w5 (fun b => (z + 2 ≤ b ∧ b < w5.heap.size) ∧ (Value.slice A3 k c3).ownBlock ≠ some b) x (cs i))
    (hb6 : Below w5.heap.size w5 w6) (hno : NoR w6 (fun b => w5.heap.size ≤ b ∧ b < w6.heap.size) n' c) (hc : c.size = 3) (hg : w6.grownBy w7 (Value.slice A3 k c3).ownBlock) (hl : (Value.slice A3 k c3).ownBlock = some g7 ∨ g7 = w6.heap.size + 1)
    (ho : w7.ownsRow 0 38 3 (.slice (some ⟨g7, 0, none⟩) (k + 1) c7) (k + 1) (flatC cs k ++ c.toList)) :
    Pl1 w z (ns ++ [n']) (.slice (some ⟨g7, 0, none⟩) (k + 1) c7) (w7.setCell ⟨z + 1, 0, none⟩ (.slice (some ⟨g7, 0, none⟩) (k + 1) c7)) := by
  have hz := blk_lt h.box
  have h6 := h.on hb6
  have hs6 : w5.heap.size ≤ w6.heap.size := hb6.size
  have hs7 : w6.heap.size ≤ w7.heap.size := hg.size
  obtain ⟨hsn, hT⟩ := row_put (q := z + 1) (j := 0) (lo := z + 2) NoR.good (by omega) (by omega) hlen hF h3c hr hb6 hno hc hg hl ho
  have hne : ∀ b, b < z + 2 → some b ≠ (Value.slice A3 k c3).ownBlock := fun b hb e => by have := (hF b e.symm).1; omega
  refine ⟨h6.below.trans (hT.below (B := z) (fun i _ hi => ?_) (by omega)), (hT.block _ (by omega) (fun hx => ?_)).trans h6.res, ?_, hsn⟩
  · rcases hi with hi | hi
    · have := (hF i hi.symm).1; omega
    · omega
  · rcases hx with hx | hx
    · exact hne _ (by omega) hx
    · omega
  · exact heap_setCell_same w7 (z + 1) 0 _ _ _ ((hg.block (z + 1) (by omega) (hne _ (by omega))).trans h6.box)
theorem Pl2.more {w : World} {z z2 k : Nat} {ns : List NodeD} {es : List EdgeD} {Ns : Value} {A3 : Option Addr} {c3 : Nat} {w5 w6 w7 : World} {cs : Nat → Array Value} {n' : EdgeD} {c : Array Value} {g7 c7 : Nat}
    (h : Pl2 w z z2 ns es Ns (.slice A3 k c3) w5) (hlen : es.length = k) (hF : ∀ b, (Value.slice A3 k c3).ownBlock = some b → z2 ≤ b ∧ b < w5.heap.size) (h3c : ∀ i, i < k → (cs i).size = 5) (hr : ∀ i x, es[i]? = some x → EdR w5 (fun b => (z2 ≤ b ∧ b < w5.heap.size) ∧ (Value.slice A3 k c3).ownBlock ≠ some b) x (cs i))
    (hb6 : Below w5.heap.size w5 w6) (hno : EdR w6 (fun b => w5.heap.size ≤ b ∧ b < w6.heap.size) n' c) (hc : c.size = 5) (hg : w6.grownBy w7 (Value.slice A3 k c3).ownBlock) (hl : (Value.slice A3 k c3).ownBlock = some g7 ∨ g7 = w6.heap.size + 1)
    (ho : w7.ownsRow 0 41 5 (.slice (some ⟨g7, 0, none⟩) (k + 1) c7) (k + 1) (flatC cs k ++ c.toList)) :
    Pl2 w z z2 ns (es ++ [n']) Ns (.slice (some ⟨g7, 0, none⟩) (k + 1) c7) (w7.setCell ⟨z + 1, 1, none⟩ (.slice (some ⟨g7, 0, none⟩) (k + 1) c7)) := by
  have hz := blk_lt h.box
  have hloc := h.loc
  have h6 := h.on hb6
  have hs6 : w5.heap.size ≤ w6.heap.size := hb6.size
  have hs7 : w6.heap.size ≤ w7.heap.size := hg.size
  obtain ⟨hsn, hT⟩ := row_put (q := z + 1) (j := 1) (lo := z2) EdR.good (by omega) hloc.2 hlen hF h3c hr hb6 hno hc hg hl ho
  have hne : ∀ b, b < z2 → some b ≠ (Value.slice A3 k c3).ownBlock := fun b hb e => by have := (hF b e.symm).1; omega
  refine ⟨h6.below.trans (hT.below (B := z) (fun i _ hi => ?_) (by omega)), (hT.block _ (by omega) (fun hx => ?_)).trans h6.res, ?_, h6.nodes.turn NoR.good hT (fun b hb => by omega) (fun b hb hx => ?_), hsn, hloc.1, by simp only [World.size_setCell]; omega⟩
  · rcases hi with hi | hi
    · have := (hF i hi.symm).1; omega
    · omega
  · rcases hx with hx | hx
    · exact hne _ (by omega) hx
    · omega
  · exact heap_setCell_same w7 (z + 1) 1 _ _ _ ((hg.block (z + 1) (by omega) (hne _ (by omega))).trans h6.box)
  · rcases hx with hx | hx
    · exact hne _ (by omega) hx
    · omega
/-- 'Plain' copies the store's graph. -/
def PlainIs (G : GraphD) (w : World) (e : Ending) (w' : World) : Prop :=
  ∃ (A : Option Addr) (c : Nat) (B : Option Addr) (d : Nat) (ns : List NodeD) (es : List EdgeD), e = .returned (.agg #[.slice A ns.length c, .slice B es.length d]) ∧ Below w.heap.size w w' ∧ GrR w' (fun b => w.heap.size ≤ b ∧ b < w'.heap.size) ⟨ns, es⟩ (.agg #[.slice A ns.length c, .slice B es.length d]) ∧ All2 SrtN G.nodes ns ∧ All2 SrtE G.edges es
set_option maxRecDepth 100000 in
set_option maxHeartbeats 8000000 in
theorem plain_any (G : GraphD) (lo p : Nat) (Ns0 Es0 : Value) (mh mt ma mid n0 : Nat) (w : World) (hst : StoreAt w lo p G Ns0 Es0 mh mt ma mid n0) (hfit : FitG G) (hflN : ∀ n, n ∈ G.nodes → FlatN n) (hflE : ∀ e, e ∈ G.edges → FlatE e) :
    Calls Tryz.prog 15 #[.pointer (some ⟨p, 0, none⟩)] w (PlainIs G w) := by
  have HFIT := Lib.hid hfit
  have HFN := Lib.hid hflN
  have HFE := Lib.hid hflE
  obtain ⟨AN, cN, hNe, _, hNr⟩ := hst.nodes
  obtain ⟨AE, cE, hEe, _, hEr⟩ := hst.edges
  obtain ⟨nN, HnN⟩ := name_itV G.nodes.length
  obtain ⟨nE, HnE⟩ := name_itV G.edges.length
  have hgn : nN ≤ 2000000 := by rw [← HnN.out]; exact hfit.1
  have hge : nE ≤ 2000000 := by rw [← HnE.out]; exact hfit.2.1
  rw [HnN.out] at hNe hNr
  rw [HnE.out] at hEe hEr
  subst hNe hEe
  have HST := Lib.hid hst
  obtain ⟨z, HZ⟩ := name_itV w.heap.size
  have HNR := Lib.hid (hNr.mono NoR.good (F' := fun b => b < z) (fun b hb => by have := hst.loc; have := HZ.out; omega))
  have HER := Lib.hid (hEr.mono EdR.good (F' := fun b => b < z) (fun b hb => by have := hst.loc; have := HZ.out; omega))
  have hpz : p < z := by rw [← HZ.out]; exact blk_lt hst.blk
  clear hst hfit hflN hflE hNr hEr
  obtain ⟨w1, HW1⟩ := name_itV ((w.alloc (.cells #[.slice none 0 0, .slice none 0 0] 25)).alloc (.cells #[.slice none 0 0, .slice none 0 0] 25))
  have HB1 := Lib.hid (show Below w.heap.size w w1 from by rw [← HW1.out]; exact two_new w _ _)
  have HL0 := Lib.hid (show Pl1 w z [] (.slice none 0 0) w1 from by
    refine ⟨by rw [← HZ.out]; exact HB1.out, ?_, ?_, SOwn.nil ..⟩
    · rw [← HW1.out, Below.heap_alloc _ _ _ (by rw [← HZ.out]; simp), ← HZ.out]
      exact heap_alloc_new w _
    · have := heap_alloc_new (w.alloc (.cells #[.slice none 0 0, .slice none 0 0] 25)) (.cells #[.slice none 0 0, .slice none 0 0] 25)
      rw [HW1.out] at this
      simpa [HZ.out] using this)
  have x0 : w1.cell? ⟨p, 0, none⟩ = some (.slice AN nN cN) := (HB1.out.cell (blk_lt HST.out.blk)).trans (Lib.cell_of_heap HST.out.blk 0)
  go_enter Tryz.func15, Tryz.ntmps15
  go_upto_region 2 with fail
  rw [HZ.out, HW1.out]
  go_wp2_with fail
  clear x0
  go_loopw [13] (fun s wx => ∃ (k : Nat) (xs : List NodeD) (Xs : Value), k ≤ nN ∧ s = .int .i64 (k : Nat) ∧ Hid (Pl1 w z xs Xs wx ∧ All2 SrtN (G.nodes.take k) xs)) (fun s _ => nN - (intOf s).toNat)
  case atStart => exact ⟨0, [], _, by omega, rfl, Lib.hid ⟨HL0.out, by rw [List.take_zero]; exact All2.nil _⟩⟩
  case round =>
    obtain ⟨k, xs, Xs, hk, rfl, hM2⟩ := hrel
    have hM := Lib.hid hM2.out.1
    have HALL := Lib.hid hM2.out.2
    clear hM2
    by_cases hlt : k < nN
    · obtain ⟨x, hx⟩ : ∃ x, G.nodes[k]? = some x := ⟨G.nodes[k]'(by rw [HnN.out]; exact hlt), List.getElem?_eq_getElem _⟩
      have HX := Lib.hid hx
      have hfx := Lib.hid (HFIT.out.2.2.1 x (List.mem_of_getElem? hx))
      have hfl := Lib.hid (HFN.out x (List.mem_of_getElem? hx))
      obtain ⟨ad, A1, d1, A2, d2, rfl, hFa, hNo, hl1, hl2, q0, q1, q2⟩ := nodesAt (HNR.out.under NoR.good hM.out.below (fun b hb => hb)) hx
      have HNO2 := Lib.hid hNo
      clear hx hFa hNo hl1 hl2
      obtain ⟨id, Hxid⟩ := name_itV x.id
      obtain ⟨m1, Hm1⟩ := name_itV x.labels.length
      obtain ⟨m2, Hm2⟩ := name_itV x.props.length
      rw [Hxid.out] at q0 HNO2
      rw [Hm1.out] at q1 HNO2
      rw [Hm2.out] at q2 HNO2
      obtain ⟨zn, Hzn⟩ := name_itV wr.heap.size
      obtain ⟨w5, HW5⟩ := name_itV (wr.alloc (.cells #[.int .i64 id, .slice A1 m1 d1, .slice A2 m2 d2] 38))
      have HB5 := Lib.hid (show Below wr.heap.size wr w5 from by rw [← HW5.out]; exact (Below.refl _ _).alloc (Nat.le_refl _) _)
      have HK5 := Lib.hid (show w5.heap[zn]? = some (.cells #[.int .i64 id, .slice A1 m1 d1, .slice A2 m2 d2] 38 (0, 0)) from by rw [← HW5.out, ← Hzn.out]; exact heap_alloc_new wr _)
      have HM5 := Lib.hid (hM.out.on HB5.out)
      have hlen : xs.length = k := by rw [← HALL.out.1, List.length_take, HnN.out]; omega
      have HLEN := Lib.hid hlen
      obtain ⟨A3, c3, h3⟩ := HM5.out.own.form
      rw [hlen] at h3
      subst h3
      have HBz5 := Lib.hid (show Below z w w5 from HM5.out.below)
      have hzw5 := Lib.hid (show z + 1 < w5.heap.size from blk_lt HM5.out.box)
      have hnd := Lib.hid (node_any x hfx.out.1 hfl.out (fun b => b < z) _ w5.drew (fun b hb => by show b < w5.heap.size; have := hzw5.out; omega) (NoR.good.keep HNO2.out (w' := w5.drew) (fun q hq => (HB5.out.cell (Nat.lt_of_lt_of_le hq (by have := blk_lt hM.out.box; omega))))))
      obtain ⟨cs, hrow, h3c, hFw, hr⟩ := HM5.out.own
      rw [hlen] at hrow h3c
      have HROW := Lib.hid hrow
      have HFW := Lib.hid (show ∀ b, (Value.slice A3 k c3).ownBlock = some b → z + 2 ≤ b ∧ b < w5.heap.size from hFw)
      have HREST := Lib.hid (And.intro h3c hr)
      have g0 : w5.drew.cell? ⟨z + 1, 0, none⟩ = some (.slice A3 k c3) := Lib.cell_of_heap HM5.out.box 0
      have n0 : w5.drew.cell? ⟨zn, 0, none⟩ = some (.int .i64 id) := Lib.cell_of_heap HK5.out 0
      have n1 : w5.drew.cell? ⟨zn, 1, none⟩ = some (.slice A1 m1 d1) := Lib.cell_of_heap HK5.out 1
      have n2 : w5.drew.cell? ⟨zn, 2, none⟩ = some (.slice A2 m2 d2) := Lib.cell_of_heap HK5.out 2
      clear hlen hrow h3c hFw hr hM
      obtain ⟨i0, hi0, hz0a, hz1a, hz2a⟩ := info_parts infoNode
      have e1 : (0 : Int) ≤ k := by omega
      have e2 : (k : Int) < nN := by omega
      go_upto_region 5 with fail
      rw [Hzn.out, HW5.out]
      clear q0 q1 q2
      go_region_law (first | (refine step_append_lies _ rfl _ _ 22 rfl 0 38 i0 (.agg #[.int .i64 0, .slice none 0 0, .slice none 0 0]) 3 56 Tryz.underlying22 hi0 hz0a hz1a hz2a rfl (by decide) (.slice A3 k c3) k (flatC cs k) rfl (by exact HROW6.out.alloc _) ⟨w6.heap.size, 0, none⟩ 1 1 [.int .i64 id, .slice A6 q6 c6, .slice B6 r6 cb6] rfl rfl (World.news_of_block (cs := #[.int .i64 id, .slice A6 q6 c6, .slice B6 r6 cb6]) (by exact NB.out)) HONE.out (by omega) (by unfold maxLen; omega) (by omega) (Nat.zero_le _) (w6.heap.size + 1) (by exact HS6.out) (fun g7 c7 w7 ho7 hg7 hl7 _ => ?_); have HO7 := Lib.hid ho7; have HG7 := Lib.hid (show w6.grownBy w7 (Value.slice A3 k c3).ownBlock from grown_after (w := w6) (o := .cells #[.int .i64 id, .slice A6 q6 c6, .slice B6 r6 cb6] 38) ⟨hg7.os, hg7.tape, hg7.output, hg7.size, hg7.block⟩); have HL7 := Lib.hid (show (Value.slice A3 k c3).ownBlock = some g7 ∨ g7 = w6.heap.size + 1 from hl7); have HC7 := Lib.hid ((HG7.out.block (z + 1) (by have := HSZ6.out; omega) (fun e => by have := HFW.out (z + 1) e.symm; omega)).trans HST6.out); have f7 : w7.frozen? ⟨z + 1, 0, none⟩ = false := Lib.frozen_of_heap HC7.out 0; have g7c : w7.cell? ⟨z + 1, 0, none⟩ = some (.slice A3 k c3) := Lib.cell_of_heap HC7.out 0; clear ho7 hg7 hl7) | (go_simp; go_at_call 31; (with_reducible refine hnd.out.mono ?_); rintro e w6 ⟨cc, n', rfl, hb6, hsrt, hno6⟩; have HN6 := Lib.hid hno6; obtain ⟨L6, P6, rfl, ⟨A6, c6, rfl, _, _⟩, B6, cb6, rfl, _, _⟩ := hno6; obtain ⟨q6, Hq6⟩ := name_itV n'.labels.length; obtain ⟨r6, Hr6⟩ := name_itV n'.props.length; rw [Hq6.out, Hr6.out] at HN6 ⊢; rw [hsrt.1, Hxid.out] at HN6 ⊢; have HB6 := Lib.hid hb6; have HSRT := Lib.hid hsrt; have HSZ6 := Lib.hid (show z + 1 < w6.heap.size from by have h1 : w5.heap.size ≤ w6.heap.size := hb6.size; have := hzw5.out; omega); have HROW6 := Lib.hid ((Turn.of_below hb6).owns HROW.out (fun g hg h => by have := HFW.out g hg; have h2 : w5.heap.size ≤ g := h; omega)); have HST6 := Lib.hid ((hb6.block (z + 1) (by show z + 1 < w5.heap.size; exact hzw5.out)).trans HM5.out.box); have g6a : w6.cell? ⟨z + 1, 0, none⟩ = some (.slice A3 k c3) := Lib.cell_of_heap HST6.out 0; have g6b : (w6.alloc (.cells #[.int .i64 id, .slice A6 q6 c6, .slice B6 r6 cb6] 38)).cell? ⟨z + 1, 0, none⟩ = some (.slice A3 k c3) := (World.cell?_alloc_lt w6 _ _ (by show z + 1 < _; exact HSZ6.out)).trans g6a; have HONE := Lib.hid (show ∀ u ∈ ([.int .i64 id, .slice A6 q6 c6, .slice B6 r6 cb6] : List Value), u.oneCell' = true from fun u hu => by simp at hu; rcases hu with rfl | rfl | rfl <;> rfl); have NB := Lib.hid (heap_alloc_new w6 (.cells #[.int .i64 id, .slice A6 q6 c6, .slice B6 r6 cb6] 38)); have HS6 := Lib.hid (show (w6.alloc (.cells #[.int .i64 id, .slice A6 q6 c6, .slice B6 r6 cb6] 38)).heap.size = w6.heap.size + 1 by simp); clear hb6 hsrt))
      all_goals (
        have w1 : IntKind.i64.wrap ((k : Int) + 1) = (k : Int) + 1 := IntWalk.i64_in _ (by omega)
        go_wp2_with fail
        go_roundw)
      all_goals first
        | (case measure => simp [intOf]; omega)
        | (case rel =>
            refine ⟨k + 1, xs ++ [n'], .slice (some ⟨g7, 0, none⟩) (k + 1) c7, by omega, by go_num, Lib.hid ⟨?_, by rw [take_oneMore HX.out]; exact HALL.out.snoc HSRT.out⟩⟩
            exact Pl1.more HM5.out HLEN.out HFW.out HREST.out.1 HREST.out.2 (below_of_drew HB6.out) HN6.out rfl HG7.out HL7.out HO7.out)
    · have hke : nN = k := by omega
      have HAL := Lib.hid (show All2 SrtN G.nodes xs from by
        have h := HALL.out
        rw [List.take_of_length_le (by rw [HnN.out, hke]; exact Nat.le_refl _)] at h
        exact h)
      have hlen : xs.length = k := by rw [← HAL.out.1, HnN.out]; exact hke
      obtain ⟨A1N, c1N, hX⟩ := hM.out.own.form
      rw [hlen] at hX
      subst hX
      have HLX := Lib.hid hlen
      have hP2 := hM.out.next
      obtain ⟨ns, hns⟩ : ∃ ns, ns = xs := ⟨xs, rfl⟩
      rw [← hns] at hP2 HAL HLX
      obtain ⟨z2, Hz2⟩ := name_itV wr.heap.size
      rw [Hz2.out] at hP2
      obtain ⟨k1, hk1⟩ : ∃ k1, k1 = k := ⟨k, rfl⟩
      rw [← hk1] at hP2 HLX
      have HP2 := Lib.hid hP2
      have HK1 := Lib.hid hk1
      have x1 : wr.cell? ⟨p, 1, none⟩ = some (.slice AE nE cE) := (HP2.out.below.cell hpz).trans (Lib.cell_of_heap HST.out.blk 1)
      clear hlen hns hM hP2 HALL hk1
      subst hke
      go_upto_region 7 with fail
      go_wp2_with fail
      clear x1
      go_loopw [30] (fun s wx => ∃ (k : Nat) (xs : List EdgeD) (Xs : Value), k ≤ nE ∧ s = .int .i64 (k : Nat) ∧ Hid (Pl2 w z z2 ns xs (.slice A1N k1 c1N) Xs wx ∧ All2 SrtE (G.edges.take k) xs)) (fun s _ => nE - (intOf s).toNat)
      case atStart => exact ⟨0, [], _, by omega, rfl, Lib.hid ⟨HP2.out, by rw [List.take_zero]; exact All2.nil _⟩⟩
      case round =>
        obtain ⟨k, xs, Xs, hk, rfl, hM2⟩ := hrel
        have hM := Lib.hid hM2.out.1
        have HALL := Lib.hid hM2.out.2
        clear hM2
        by_cases hlt : k < nE
        · obtain ⟨x, hx⟩ : ∃ x, G.edges[k]? = some x := ⟨G.edges[k]'(by rw [HnE.out]; exact hlt), List.getElem?_eq_getElem _⟩
          have HX := Lib.hid hx
          have hfx := Lib.hid (HFIT.out.2.2.2 x (List.mem_of_getElem? hx))
          have hfl := Lib.hid (HFE.out x (List.mem_of_getElem? hx))
          obtain ⟨ad, A2, d2, rfl, hFa, hEd, hl2, q0, q1, q2, q3, q4⟩ := edgesAt (HER.out.under EdR.good hM.out.below (fun b hb => hb)) hx
          have HNO2 := Lib.hid hEd
          clear hx hFa hEd hl2
          obtain ⟨id, Hxid⟩ := name_itV x.id
          obtain ⟨src, Hsrc⟩ := name_itV x.src
          obtain ⟨dst, Hdst⟩ := name_itV x.dst
          obtain ⟨typ, Htyp⟩ := name_itV x.type
          obtain ⟨m2, Hm2⟩ := name_itV x.props.length
          rw [Hxid.out] at q0 HNO2
          rw [Hsrc.out] at q1 HNO2
          rw [Hdst.out] at q2 HNO2
          rw [Htyp.out] at q3 HNO2
          rw [Hm2.out] at q4 HNO2
          obtain ⟨zn, Hzn⟩ := name_itV wr.heap.size
          obtain ⟨w5, HW5⟩ := name_itV (wr.alloc (.cells #[.int .i64 id, .int .i64 src, .int .i64 dst, .string typ, .slice A2 m2 d2] 41))
          have HB5 := Lib.hid (show Below wr.heap.size wr w5 from by rw [← HW5.out]; exact (Below.refl _ _).alloc (Nat.le_refl _) _)
          have HK5 := Lib.hid (show w5.heap[zn]? = some (.cells #[.int .i64 id, .int .i64 src, .int .i64 dst, .string typ, .slice A2 m2 d2] 41 (0, 0)) from by rw [← HW5.out, ← Hzn.out]; exact heap_alloc_new wr _)
          have HM5 := Lib.hid (hM.out.on HB5.out)
          have hlen : xs.length = k := by rw [← HALL.out.1, List.length_take, HnE.out]; omega
          have HLEN := Lib.hid hlen
          obtain ⟨A3, c3, h3⟩ := HM5.out.own.form
          rw [hlen] at h3
          subst h3
          have HBz5 := Lib.hid (show Below z w w5 from HM5.out.below)
          have hzw5 := Lib.hid (show z + 1 < w5.heap.size from blk_lt HM5.out.box)
          have hnd := Lib.hid (edge_any x hfx.out.1 hfl.out (fun b => b < z) _ w5.drew (fun b hb => by show b < w5.heap.size; have := hzw5.out; omega) (EdR.good.keep HNO2.out (w' := w5.drew) (fun q hq => (HB5.out.cell (Nat.lt_of_lt_of_le hq (by have := blk_lt hM.out.box; omega))))))
          obtain ⟨cs, hrow, h3c, hFw, hr⟩ := HM5.out.own
          rw [hlen] at hrow h3c
          have HROW := Lib.hid hrow
          have HFW := Lib.hid (show ∀ b, (Value.slice A3 k c3).ownBlock = some b → z2 ≤ b ∧ b < w5.heap.size from hFw)
          have HREST := Lib.hid (And.intro h3c hr)
          have g0 : w5.drew.cell? ⟨z + 1, 1, none⟩ = some (.slice A3 k c3) := Lib.cell_of_heap HM5.out.box 1
          have n0 : w5.drew.cell? ⟨zn, 0, none⟩ = some (.int .i64 id) := Lib.cell_of_heap HK5.out 0
          have n1 : w5.drew.cell? ⟨zn, 1, none⟩ = some (.int .i64 src) := Lib.cell_of_heap HK5.out 1
          have n2 : w5.drew.cell? ⟨zn, 2, none⟩ = some (.int .i64 dst) := Lib.cell_of_heap HK5.out 2
          have n3 : w5.drew.cell? ⟨zn, 3, none⟩ = some (.string typ) := Lib.cell_of_heap HK5.out 3
          have n4 : w5.drew.cell? ⟨zn, 4, none⟩ = some (.slice A2 m2 d2) := Lib.cell_of_heap HK5.out 4
          have hfar1 : z + 2 ≤ z2 := HM5.out.loc.1
          clear hlen hrow h3c hFw hr hM
          obtain ⟨i0, hi0, hz0a, hz1a, hz2a⟩ := info_parts infoEdge
          have e1 : (0 : Int) ≤ k := by omega
          have e2 : (k : Int) < nE := by omega
          go_upto_region 10 with fail
          rw [Hzn.out, HW5.out]
          clear q0 q1 q2 q3 q4
          go_region_law (first | (refine step_append_lies _ rfl _ _ 23 rfl 0 41 i0 (.agg #[.int .i64 0, .int .i64 0, .int .i64 0, .string ⟨#[]⟩, .slice none 0 0]) 5 64 Tryz.underlying23 hi0 hz0a hz1a hz2a rfl (by decide) (.slice A3 k c3) k (flatC cs k) rfl (by exact HROW6.out.alloc _) ⟨w6.heap.size, 0, none⟩ 1 1 [.int .i64 id, .int .i64 src, .int .i64 dst, .string typ, .slice B6 r6 cb6] rfl rfl (World.news_of_block (cs := #[.int .i64 id, .int .i64 src, .int .i64 dst, .string typ, .slice B6 r6 cb6]) (by exact NB.out)) HONE.out (by omega) (by unfold maxLen; omega) (by omega) (Nat.zero_le _) (w6.heap.size + 1) (by exact HS6.out) (fun g7 c7 w7 ho7 hg7 hl7 _ => ?_); have HO7 := Lib.hid ho7; have HG7 := Lib.hid (show w6.grownBy w7 (Value.slice A3 k c3).ownBlock from grown_after (w := w6) (o := .cells #[.int .i64 id, .int .i64 src, .int .i64 dst, .string typ, .slice B6 r6 cb6] 41) ⟨hg7.os, hg7.tape, hg7.output, hg7.size, hg7.block⟩); have HL7 := Lib.hid (show (Value.slice A3 k c3).ownBlock = some g7 ∨ g7 = w6.heap.size + 1 from hl7); have HC7 := Lib.hid ((HG7.out.block (z + 1) (by have := HSZ6.out; omega) (fun e => by have := HFW.out (z + 1) e.symm; omega)).trans HST6.out); have f7 : w7.frozen? ⟨z + 1, 1, none⟩ = false := Lib.frozen_of_heap HC7.out 1; have g7c : w7.cell? ⟨z + 1, 1, none⟩ = some (.slice A3 k c3) := Lib.cell_of_heap HC7.out 1; clear ho7 hg7 hl7) | (go_simp; go_at_call 33; (with_reducible refine hnd.out.mono ?_); rintro e w6 ⟨cc, n', rfl, hb6, hsrt, hno6⟩; have HN6 := Lib.hid hno6; obtain ⟨P6, rfl, B6, cb6, rfl, _, _⟩ := hno6; obtain ⟨r6, Hr6⟩ := name_itV n'.props.length; rw [Hr6.out] at HN6 ⊢; rw [hsrt.1, hsrt.2.1, hsrt.2.2.1, hsrt.2.2.2.1, Hxid.out, Hsrc.out, Hdst.out, Htyp.out] at HN6 ⊢; have HB6 := Lib.hid hb6; have HSRT := Lib.hid hsrt; have HSZ6 := Lib.hid (show z + 1 < w6.heap.size from by have h1 : w5.heap.size ≤ w6.heap.size := hb6.size; have := hzw5.out; omega); have HROW6 := Lib.hid ((Turn.of_below hb6).owns HROW.out (fun g hg h => by have := HFW.out g hg; have h2 : w5.heap.size ≤ g := h; omega)); have HST6 := Lib.hid ((hb6.block (z + 1) (by show z + 1 < w5.heap.size; exact hzw5.out)).trans HM5.out.box); have g6a : w6.cell? ⟨z + 1, 1, none⟩ = some (.slice A3 k c3) := Lib.cell_of_heap HST6.out 1; have g6b : (w6.alloc (.cells #[.int .i64 id, .int .i64 src, .int .i64 dst, .string typ, .slice B6 r6 cb6] 41)).cell? ⟨z + 1, 1, none⟩ = some (.slice A3 k c3) := (World.cell?_alloc_lt w6 _ _ (by show z + 1 < _; exact HSZ6.out)).trans g6a; have HONE := Lib.hid (show ∀ u ∈ ([.int .i64 id, .int .i64 src, .int .i64 dst, .string typ, .slice B6 r6 cb6] : List Value), u.oneCell' = true from fun u hu => by simp at hu; rcases hu with rfl | rfl | rfl | rfl | rfl <;> rfl); have NB := Lib.hid (heap_alloc_new w6 (.cells #[.int .i64 id, .int .i64 src, .int .i64 dst, .string typ, .slice B6 r6 cb6] 41)); have HS6 := Lib.hid (show (w6.alloc (.cells #[.int .i64 id, .int .i64 src, .int .i64 dst, .string typ, .slice B6 r6 cb6] 41)).heap.size = w6.heap.size + 1 by simp); clear hb6 hsrt))
          all_goals (
            have w1 : IntKind.i64.wrap ((k : Int) + 1) = (k : Int) + 1 := IntWalk.i64_in _ (by omega)
            go_wp2_with fail
            go_roundw)
          all_goals first
            | (case measure => simp [intOf]; omega)
            | (case rel =>
                refine ⟨k + 1, xs ++ [n'], .slice (some ⟨g7, 0, none⟩) (k + 1) c7, by omega, by go_num, Lib.hid ⟨?_, by rw [take_oneMore HX.out]; exact HALL.out.snoc HSRT.out⟩⟩
                exact Pl2.more HM5.out HLEN.out HFW.out HREST.out.1 HREST.out.2 (below_of_drew HB6.out) HN6.out rfl HG7.out HL7.out HO7.out)
        · have hke : nE = k := by omega
          have HAE := Lib.hid (show All2 SrtE G.edges xs from by
            have h := HALL.out
            rw [List.take_of_length_le (by rw [HnE.out, hke]; exact Nat.le_refl _)] at h
            exact h)
          have hlen : xs.length = k := by rw [← HAE.out.1, HnE.out]; exact hke
          obtain ⟨A2E, c2E, hX⟩ := hM.out.own.form
          rw [hlen] at hX
          subst hX
          have HLE2 := Lib.hid hlen
          have hbx : wr.cell? ⟨z + 1, 0, none⟩ = some (.slice A1N k1 c1N) := Lib.cell_of_heap hM.out.box 0
          have hby : wr.cell? ⟨z + 1, 1, none⟩ = some (.slice A2E k c2E) := Lib.cell_of_heap hM.out.box 1
          have r0 : wr.cell? ⟨z, 0, none⟩ = some (.slice none 0 0) := Lib.cell_of_heap hM.out.res 0
          have r1 : wr.cell? ⟨z, 1, none⟩ = some (.slice none 0 0) := Lib.cell_of_heap hM.out.res 1
          have y0 : wr.frozen? ⟨z, 0, none⟩ = false := Lib.frozen_of_heap hM.out.res 0
          have y1 : wr.frozen? ⟨z, 1, none⟩ = false := Lib.frozen_of_heap hM.out.res 1
          clear hlen HALL
          subst hke
          go_upto_region 12 with fail
          go_wp2_with fail
          have h1 := heap_setCell_same _ z 1 _ _ (.slice A2E nE c2E) (heap_setCell_same _ z 0 _ _ (.slice A1N k1 c1N) hM.out.res)
          have ht := (((Turn.refl (fun b => b = z) wr).setCell (p := ⟨z, 0, none⟩) (.inr rfl) (.slice A1N k1 c1N)).setCell (p := ⟨z, 1, none⟩) (.inr rfl) (.slice A2E nE c2E))
          obtain ⟨W9, HW9⟩ := name_itV ((wr.setCell ⟨z, 0, none⟩ (.slice A1N k1 c1N)).setCell ⟨z, 1, none⟩ (.slice A2E nE c2E))
          rw [HW9.out] at h1 ht ⊢
          have k0 : W9.cell? ⟨z, 0, none⟩ = some (.slice A1N k1 c1N) := Lib.cell_of_heap h1 0
          have k1' : W9.cell? ⟨z, 1, none⟩ = some (.slice A2E nE c2E) := Lib.cell_of_heap h1 1
          have hloc := hM.out.loc
          have hpl : Below w.heap.size w W9 := by rw [HZ.out]; exact hM.out.below.trans (ht.below (fun i _ h => by omega) (by have := blk_lt hM.out.box; omega))
          have hgr : GrR W9 (fun b => w.heap.size ≤ b ∧ b < W9.heap.size) ⟨ns, xs⟩ (.agg #[.slice A1N k1 c1N, .slice A2E nE c2E]) := by
            refine ⟨_, _, rfl, ?_, ?_⟩
            · refine ((hM.out.nodes.turn NoR.good ht (fun b hb => by omega) (fun b hb => by omega)).rd NoR.good).mono NoR.good (fun b hb => ⟨by have := HZ.out; omega, by have := ht.size; omega⟩)
            · refine ((hM.out.own.turn EdR.good ht (fun b hb => hb.2) (fun b hb => by omega)).rd EdR.good).mono EdR.good (fun b hb => ⟨by have := HZ.out; omega, by have := ht.size; omega⟩)
          rw [← HLX.out, ← HLE2.out] at *
          refine bodyPost_ret (v := .agg #[.slice A1N ns.length c1N, .slice A2E xs.length c2E]) (by simp [results, Tryz.results15, go_sem, k0, k1']) rfl ⟨A1N, c1N, A2E, c2E, ns, xs, rfl, hpl, hgr, HAL.out, HAE.out⟩
end Go.Proofs.YtmhjbicbdahllaaGreatDoor
