/- GraphLoads: the document's copies and sorted graphs -/
import Derived.Test.YtmhjbicbdahllaaGreatDoorIY1
import Derived.Test.YtmhjbicbdahllaaGreatDoorGB
namespace Go.Proofs.YtmhjbicbdahllaaGreatDoor
open Go Go.RowKit

structure Boxed (p : Prop) : Prop where
  out : p
section
variable {P : Program} {md : Region.Mode} {ops : Array Oper} {Q : Exit → Act → World → Prop} {S : World → Prop} {fuel : Nat} {listed : Array Bool} {a : Act} {w : World}
/-- Operation number i of a region, as it is run. -/
def runsTo (P : Program) (ops : Array Oper) (i : Nat) (a : Act) (w : World) (v : Value) : Prop :=
  match ops[i]? with
  | some o => (execOp a.eval o).run P w = .ok (.value v) w
  | none => False
def wpAt (P : Program) (ops : Array Oper) (i : Nat) (a : Act) (w : World) (K : Act → World → Prop) (Q : Exit → Act → World → Prop) : Prop :=
  match ops[i]? with
  | some o => Oper.wp P o a w K Q
  | none => False
def wantedNo (ops : Array Oper) (i : Nat) (a : Act) : Option Bool := ops[i]?.map fun o => Region.wanted o (yielded ops a.tmps)
theorem take_want (i d : Nat) (v : Value) (hd : ops[i]?.map (·.dst) = some (some d)) (hw : wantedNo ops i a = some true) (hs : Region.noSelect ops = true) (hf : Region.free md ops listed i = true) (hr : (Region.ready md ops listed).contains i = true)
    (hQ : ∀ c a w, Q (.panic c) (a.put (some d) v) w → Q (.panic c) a w) (hS : S w) (hv : ∀ w, S w → runsTo P ops i a w v)
    (h : S w → Boxed (wpAnyH P md ops Q S fuel (listed.setIfInBounds i true) (a.put (some d) v) w)) : Boxed (wpAnyH P md ops Q S (fuel + 1) listed a w) := by
  unfold wantedNo at hw
  cases ho : ops[i]? with
  | none => rw [ho] at hd; cases hd
  | some o =>
    rw [ho] at hd hw
    simp only [Option.map_some, Option.some.injEq] at hd hw
    exact ⟨wpAnyH_take ho hs hf hr (fun c a w h => hQ c a w (by rw [← hd]; exact h)) (.inl ⟨hw, fun w hw => by have := hv w hw; unfold runsTo at this; rw [ho] at this; exact this⟩) hS (by rw [hd]; exact (h hS).out)⟩
theorem take_call (i : Nat) (hr : Region.ready md ops listed = [i]) (hw : wantedNo ops i a = some true)
    (h : ∀ K' : Act → World → Prop, Shut (∀ a w, S w → (S w → Boxed (wpAnyH P md ops Q S fuel (listed.setIfInBounds i true) a w)) → K' a w) → wpAt P ops i a w K' Q) : Boxed (wpAnyH P md ops Q S (fuel + 1) listed a w) := by
  unfold wantedNo at hw
  cases ho : ops[i]? with
  | none => rw [ho] at hw; cases hw
  | some o =>
    rw [ho] at hw
    simp only [Option.map_some, Option.some.injEq] at hw
    refine ⟨wpAnyH_ready hr (by simp) (AllReadyH.cons ho (fun K hK => ?_) AllReadyH.nil)⟩
    rw [if_pos hw]
    have := h K (fun a w hS hB => hK.out a w hS (fun hS => (hB hS).out))
    unfold wpAt at this
    rw [ho] at this
    exact this
theorem take_two (i j : Nat) (hr : Region.ready md ops listed = [i, j]) (hwi : wantedNo ops i a = some true) (hwj : wantedNo ops j a = some true)
    (hi : ∀ K' : Act → World → Prop, Shut (∀ a w, S w → (S w → Boxed (wpAnyH P md ops Q S fuel (listed.setIfInBounds i true) a w)) → K' a w) → wpAt P ops i a w K' Q)
    (hj : ∀ K' : Act → World → Prop, Shut (∀ a w, S w → (S w → Boxed (wpAnyH P md ops Q S fuel (listed.setIfInBounds j true) a w)) → K' a w) → wpAt P ops j a w K' Q) : Boxed (wpAnyH P md ops Q S (fuel + 1) listed a w) := by
  unfold wantedNo at hwi hwj
  cases hoi : ops[i]? with
  | none => rw [hoi] at hwi; cases hwi
  | some o =>
    cases hoj : ops[j]? with
    | none => rw [hoj] at hwj; cases hwj
    | some p =>
      rw [hoi] at hwi
      rw [hoj] at hwj
      simp only [Option.map_some, Option.some.injEq] at hwi hwj
      refine ⟨wpAnyH_ready hr (by simp) (AllReadyH.cons hoi (fun K hK => ?_) (AllReadyH.cons hoj (fun K hK => ?_) AllReadyH.nil))⟩
      · rw [if_pos hwi]
        have := hi K (fun a w hS hB => hK.out a w hS (fun hS => (hB hS).out))
        unfold wpAt at this
        rw [hoi] at this
        exact this
      · rw [if_pos hwj]
        have := hj K (fun a w hS hB => hK.out a w hS (fun hS => (hB hS).out))
        unfold wpAt at this
        rw [hoj] at this
        exact this
end
/-- What 'CopyGraph' holds behind some nodes. -/
structure Cg1 (w : World) (z : Nat) (ns : List NodeD) (Ns : Value) (wr : World) : Prop where
  below : Below z w wr
  res : wr.heap[z]? = some (.cells #[.slice none 0 0, .slice none 0 0] 25 (0, 0))
  box : wr.heap[z + 1]? = some (.cells #[Ns, .slice none 0 0] 25 (0, 0))
  own : SInt 38 3 NoO wr (z + 2) wr.heap.size ns Ns
/-- .. behind some edges. -/
structure Cg2 (w : World) (z z2 : Nat) (ns : List NodeD) (es : List EdgeD) (Ns Es : Value) (wr : World) : Prop where
  below : Below z w wr
  res : wr.heap[z]? = some (.cells #[.slice none 0 0, .slice none 0 0] 25 (0, 0))
  box : wr.heap[z + 1]? = some (.cells #[Ns, Es] 25 (0, 0))
  nodes : SInt 38 3 NoO wr (z + 2) z2 ns Ns
  own : SInt 41 5 EdO wr z2 wr.heap.size es Es
  loc : z + 2 ≤ z2 ∧ z2 ≤ wr.heap.size
section
variable {w : World} {z z2 k : Nat} {ns : List NodeD} {es : List EdgeD} {Ns Es : Value} {wr w2 w5 w6 w7 : World} {A3 : Option Addr} {c3 : Nat} {cs : Nat → Array Value} {a : Nat → Nat} {c : Array Value} {g7 c7 : Nat}
theorem Cg1.on (h : Cg1 w z ns Ns wr) (hb : Below wr.heap.size wr w2) : Cg1 w z ns Ns w2 := by
  have hz := blk_lt h.box
  exact ⟨h.below.trans (hb.mono (by omega)), (hb.block _ (by omega)).trans h.res, (hb.block _ hz).trans h.box, (h.own.turn NoO.good (Turn.of_below hb) (fun b _ hb h => by omega)).wide hb.size (Nat.le_refl _)⟩
theorem Cg2.on (h : Cg2 w z z2 ns es Ns Es wr) (hb : Below wr.heap.size wr w2) : Cg2 w z z2 ns es Ns Es w2 := by
  have hz := blk_lt h.box
  have hl := h.loc
  exact ⟨h.below.trans (hb.mono (by omega)), (hb.block _ (by omega)).trans h.res, (hb.block _ hz).trans h.box, h.nodes.turn NoO.good (Turn.of_below hb) (fun b _ hb h => by omega),
    (h.own.turn EdO.good (Turn.of_below hb) (fun b _ hb h => by omega)).wide hb.size (Nat.le_refl _), hl.1, Nat.le_trans hl.2 hb.size⟩
theorem Cg1.next (h : Cg1 w z ns Ns wr) : Cg2 w z wr.heap.size ns [] Ns (.slice none 0 0) wr := by
  have hz := blk_lt h.box
  exact ⟨h.below, h.res, h.box, h.own, SInt.nil (Nat.le_refl _) (Nat.le_refl _), by omega, Nat.le_refl _⟩
theorem Cg1.more {n' : NodeD} (h : Cg1 w z ns (.slice A3 k c3) w5) (hI : IntS 38 3 NoO w5 (z + 2) w5.heap.size ns A3 k c3 cs a)
    (hb6 : Below w5.heap.size w5 w6) (hno : NoO w6 (fun b => w5.heap.size ≤ b ∧ b < w6.heap.size) n' c) (hc : c.size = 3) (hg : w6.grownBy w7 (Value.slice A3 k c3).ownBlock) (hl : (Value.slice A3 k c3).ownBlock = some g7 ∨ w6.heap.size ≤ g7)
    (ho : w7.ownsRow 0 38 3 (.slice (some ⟨g7, 0, none⟩) (k + 1) c7) (k + 1) (flatC cs k ++ c.toList)) :
    Cg1 w z (ns ++ [n']) (.slice (some ⟨g7, 0, none⟩) (k + 1) c7) (w7.setCell ⟨z + 1, 0, none⟩ (.slice (some ⟨g7, 0, none⟩) (k + 1) c7)) := by
  have hz := blk_lt h.box
  have h6 := h.on hb6
  have hs6 : w5.heap.size ≤ w6.heap.size := hb6.size
  have hs7 : w6.heap.size ≤ w7.heap.size := hg.size
  obtain ⟨hsn, hT⟩ := IntS.put (q := z + 1) (j := 0) (v := .slice (some ⟨g7, 0, none⟩) (k + 1) c7) NoO.good (by omega) hI hb6 hno hc hg hl ho
  have hne : ∀ b, b < z + 2 → some b ≠ (Value.slice A3 k c3).ownBlock := fun b hb e => by have := (hI.own b e.symm).1; omega
  refine ⟨h6.below.trans (hT.below (B := z) (fun i _ hi => ?_) (by omega)), (hT.block _ (by omega) (fun hx => ?_)).trans h6.res, ?_, hsn⟩
  · rcases hi with hi | hi
    · have := (hI.own i hi.symm).1; omega
    · omega
  · rcases hx with hx | hx
    · exact hne _ (by omega) hx
    · omega
  · exact heap_setCell_same w7 (z + 1) 0 _ _ _ ((hg.block (z + 1) (by omega) (hne _ (by omega))).trans h6.box)
theorem Cg2.more {n' : EdgeD} (h : Cg2 w z z2 ns es Ns (.slice A3 k c3) w5) (hI : IntS 41 5 EdO w5 z2 w5.heap.size es A3 k c3 cs a)
    (hb6 : Below w5.heap.size w5 w6) (hno : EdO w6 (fun b => w5.heap.size ≤ b ∧ b < w6.heap.size) n' c) (hc : c.size = 5) (hg : w6.grownBy w7 (Value.slice A3 k c3).ownBlock) (hl : (Value.slice A3 k c3).ownBlock = some g7 ∨ w6.heap.size ≤ g7)
    (ho : w7.ownsRow 0 41 5 (.slice (some ⟨g7, 0, none⟩) (k + 1) c7) (k + 1) (flatC cs k ++ c.toList)) :
    Cg2 w z z2 ns (es ++ [n']) Ns (.slice (some ⟨g7, 0, none⟩) (k + 1) c7) (w7.setCell ⟨z + 1, 1, none⟩ (.slice (some ⟨g7, 0, none⟩) (k + 1) c7)) := by
  have hz := blk_lt h.box
  have hloc := h.loc
  have h6 := h.on hb6
  have hs6 : w5.heap.size ≤ w6.heap.size := hb6.size
  have hs7 : w6.heap.size ≤ w7.heap.size := hg.size
  obtain ⟨hsn, hT⟩ := IntS.put (q := z + 1) (j := 1) (v := .slice (some ⟨g7, 0, none⟩) (k + 1) c7) EdO.good (by omega) hI hb6 hno hc hg hl ho
  have hne : ∀ b, b < z2 → some b ≠ (Value.slice A3 k c3).ownBlock := fun b hb e => by have := (hI.own b e.symm).1; omega
  refine ⟨h6.below.trans (hT.below (B := z) (fun i _ hi => ?_) (by omega)), (hT.block _ (by omega) (fun hx => ?_)).trans h6.res, ?_, h6.nodes.turn NoO.good hT (fun b hb1 hb hx => ?_), hsn, hloc.1, by simp only [World.size_setCell]; omega⟩
  · rcases hi with hi | hi
    · have := (hI.own i hi.symm).1; omega
    · omega
  · rcases hx with hx | hx
    · exact hne _ (by omega) hx
    · omega
  · exact heap_setCell_same w7 (z + 1) 1 _ _ _ ((hg.block (z + 1) (by omega) (hne _ (by omega))).trans h6.box)
  · rcases hx with hx | hx
    · exact hne _ (by omega) hx
    · omega
end
/-- 'CopyGraph' copies, in memory of its own: nodes ahead, edges behind. -/
def CopyGIs (G : GraphD) (w : World) (e : Ending) (w' : World) : Prop :=
  ∃ (N E : Value) (z2 : Nat), e = .returned (.agg #[N, E]) ∧ Below w.heap.size w w' ∧ w.heap.size ≤ z2 ∧ z2 ≤ w'.heap.size ∧ SInt 38 3 NoO w' w.heap.size z2 G.nodes N ∧ SInt 41 5 EdO w' z2 w'.heap.size G.edges E
set_option maxRecDepth 100000 in
set_option maxHeartbeats 8000000 in
theorem copyG_any (G : GraphD) (hfit : FitG G) (F : Nat → Prop) (u : Value) (w : World) (hF : ∀ b, F b → b < w.heap.size) (hg : GrR w F G u) :
    Calls Tryz.prog 9 #[u] w (CopyGIs G w) := by
  have HFIT := Lib.hid hfit
  obtain ⟨uN, uE, rfl, ⟨AN, cN, hNe, _, hNr⟩, AE, cE, hEe, _, hEr⟩ := hg
  obtain ⟨nN, HnN⟩ := name_itV G.nodes.length
  obtain ⟨nE, HnE⟩ := name_itV G.edges.length
  have hgn : nN ≤ 2000000 := by rw [← HnN.out]; exact hfit.1
  have hge : nE ≤ 2000000 := by rw [← HnE.out]; exact hfit.2.1
  rw [HnN.out] at hNe hNr
  rw [HnE.out] at hEe hEr
  subst hNe hEe
  obtain ⟨zg, Hzg⟩ := name_itV w.heap.size
  obtain ⟨w0, HW0⟩ := name_itV (w.alloc (.cells #[.slice AN nN cN, .slice AE nE cE] 25))
  have HB0 := Lib.hid (show Below w.heap.size w w0 from by rw [← HW0.out]; exact (Below.refl _ _).alloc (Nat.le_refl _) _)
  have HK0 := Lib.hid (show w0.heap[zg]? = some (.cells #[.slice AN nN cN, .slice AE nE cE] 25 (0, 0)) from by rw [← HW0.out, ← Hzg.out]; exact heap_alloc_new w _)
  obtain ⟨z, HZ⟩ := name_itV w0.heap.size
  have HZZ := Lib.hid (show z = zg + 1 from by rw [← HZ.out, ← HW0.out, ← Hzg.out]; simp)
  have hzz : zg < z := by have := HZZ.out; omega
  have HNR := Lib.hid ((hNr.mono NoR.good (F' := fun b => b < zg) (fun b hb => by have := hF b hb; rw [Hzg.out] at this; exact this)).under NoR.good HB0.out (fun b hb => by rw [Hzg.out]; exact hb))
  have HER := Lib.hid ((hEr.mono EdR.good (F' := fun b => b < zg) (fun b hb => by have := hF b hb; rw [Hzg.out] at this; exact this)).under EdR.good HB0.out (fun b hb => by rw [Hzg.out]; exact hb))
  clear hfit hNr hEr hF
  obtain ⟨w1, HW1⟩ := name_itV ((w0.alloc (.cells #[.slice none 0 0, .slice none 0 0] 25)).alloc (.cells #[.slice none 0 0, .slice none 0 0] 25))
  have HB1 := Lib.hid (show Below w0.heap.size w0 w1 from by rw [← HW1.out]; exact two_new w0 _ _)
  have HL0 := Lib.hid (show Cg1 w0 z [] (.slice none 0 0) w1 from by
    have hsz : w1.heap.size = z + 2 := by rw [← HW1.out, ← HZ.out]; simp
    refine ⟨by rw [← HZ.out]; exact HB1.out, ?_, ?_, SInt.nil (by omega) (Nat.le_refl _)⟩
    · rw [← HW1.out, Below.heap_alloc _ _ _ (by rw [← HZ.out]; simp), ← HZ.out]
      exact heap_alloc_new w0 _
    · have := heap_alloc_new (w0.alloc (.cells #[.slice none 0 0, .slice none 0 0] 25)) (.cells #[.slice none 0 0, .slice none 0 0] 25)
      rw [HW1.out] at this
      simpa [HZ.out] using this)
  go_enter Tryz.func9, Tryz.ntmps9
  go_upto_region 2 with fail
  rw [HW0.out, Hzg.out, show zg + 1 = z from HZZ.out.symm, HW1.out]
  go_wp2_with fail
  go_loopw [4] (fun s wx => ∃ (k : Nat) (Xs : Value), k ≤ nN ∧ s = .int .i64 (k : Nat) ∧ Hid (Cg1 w0 z (G.nodes.take k) Xs wx)) (fun s _ => nN - (intOf s).toNat)
  case atStart => exact ⟨0, _, by omega, rfl, Lib.hid (by rw [List.take_zero]; exact HL0.out)⟩
  case round =>
    obtain ⟨k, Xs, hk, rfl, hM⟩ := hrel
    have x0 : wr.cell? ⟨zg, 0, none⟩ = some (.slice AN nN cN) := (hM.out.below.cell (p := ⟨zg, 0, none⟩) (by show zg < z; omega)).trans (Lib.cell_of_heap HK0.out 0)
    by_cases hlt : k < nN
    · obtain ⟨x, hx⟩ : ∃ x, G.nodes[k]? = some x := ⟨G.nodes[k]'(by rw [HnN.out]; exact hlt), List.getElem?_eq_getElem _⟩
      have HX := Lib.hid hx
      have hfx := Lib.hid (HFIT.out.2.2.1 x (List.mem_of_getElem? hx))
      obtain ⟨ad, A1, d1, A2, d2, rfl, hFa, hNo, hl1, hl2, q0, q1, q2⟩ := nodesAt (HNR.out.under NoR.good hM.out.below (fun b hb => by omega)) hx
      clear hx hFa hNo
      obtain ⟨id, Hxid⟩ := name_itV x.id
      obtain ⟨m1, Hm1⟩ := name_itV x.labels.length
      obtain ⟨m2, Hm2⟩ := name_itV x.props.length
      rw [Hxid.out] at q0
      rw [Hm1.out] at q1 hl1
      rw [Hm2.out] at q2 hl2
      have HL1 := Lib.hid hl1
      have HL2 := Lib.hid hl2
      have hm1 : m1 ≤ 2000000 := by rw [← Hm1.out]; exact hfx.out.1.1
      obtain ⟨zn, Hzn⟩ := name_itV wr.heap.size
      obtain ⟨w5, HW5⟩ := name_itV (wr.alloc (.cells #[.int .i64 id, .slice A1 m1 d1, .slice A2 m2 d2] 38))
      have HB5 := Lib.hid (show Below wr.heap.size wr w5 from by rw [← HW5.out]; exact (Below.refl _ _).alloc (Nat.le_refl _) _)
      have HK5 := Lib.hid (show w5.heap[zn]? = some (.cells #[.int .i64 id, .slice A1 m1 d1, .slice A2 m2 d2] 38 (0, 0)) from by rw [← HW5.out, ← Hzn.out]; exact heap_alloc_new wr _)
      have hlen : (G.nodes.take k).length = k := by rw [List.length_take, HnN.out]; omega
      obtain ⟨A3, c3, cs, a, h3, hI⟩ := hM.out.own
      rw [hlen] at h3 hI
      subst h3
      have HI := Lib.hid hI
      have HFW := Lib.hid (show ∀ b, (Value.slice A3 k c3).ownBlock = some b → z + 2 ≤ b ∧ b < wr.heap.size from hI.own)
      have hzw0 := Lib.hid (show z + 1 < wr.heap.size from blk_lt hM.out.box)
      have hzn5 := Lib.hid (show zn < w5.heap.size from blk_lt HK5.out)
      have hznr := Lib.hid (show zn = wr.heap.size from Hzn.out.symm)
      have hsz5 : wr.heap.size ≤ w5.heap.size := HB5.out.size
      have hzw5 := Lib.hid (show z + 1 < w5.heap.size from by have := hzw0.out; omega)
      have HMX := Lib.hid hM.out
      have HM5 := Lib.hid (HMX.out.on HB5.out)
      have hnT := Lib.hid (copyT_any x.labels (fun b => b < zg) A1 m1 d1 (by omega) w5.drew (fun b hb => by show b < w5.heap.size; have := hzw5.out; omega) ((HL1.out.under TxR.good HB5.out (fun b hb => by have := hzw0.out; omega)).drewN TxR.good 1))
      have hnP := Lib.hid (fun (W : World) (hW : Below w5.heap.size w5 W) => copyP_any x.props hfx.out.1.2.2.2 hfx.out.1.2.1 (fun b => b < zg) A2 m2 d2 W (fun b hb => by have h1 : w5.heap.size ≤ W.heap.size := hW.size; have := hzw5.out; omega) ((HL2.out.under PaR.good HB5.out (fun b hb => by have := hzw0.out; omega)).under PaR.good hW (fun b hb => by have := hzw5.out; omega)))
      have HSW := Lib.hid (fun (W' : World) (hW : Below w5.heap.size w5 W') => (show (W'.cell? ⟨zn, 0, none⟩ = some (.int .i64 id) ∧ W'.cell? ⟨zn, 1, none⟩ = some (.slice A1 m1 d1) ∧ W'.cell? ⟨zn, 2, none⟩ = some (.slice A2 m2 d2)) from ⟨(hW.cell (p := ⟨zn, 0, none⟩) hzn5.out).trans (Lib.cell_of_heap HK5.out 0), (hW.cell (p := ⟨zn, 1, none⟩) hzn5.out).trans (Lib.cell_of_heap HK5.out 1), (hW.cell (p := ⟨zn, 2, none⟩) hzn5.out).trans (Lib.cell_of_heap HK5.out 2)⟩))
      have HGW := Lib.hid (fun (W' : World) (hW : Below w5.heap.size w5 W') => (show W'.heap[z + 1]? = some (.cells #[.slice A3 k c3, .slice none 0 0] 25 (0, 0)) from (hW.block (z + 1) hzw5.out).trans HM5.out.box))
      have s1 := Lib.hid (HSW.out w5.drew (Below.refl _ _).drew)
      have g0 : w5.drew.cell? ⟨z + 1, 0, none⟩ = some (.slice A3 k c3) := Lib.cell_of_heap (HGW.out w5.drew (Below.refl _ _).drew) 0
      clear hlen hI hM hl1 hl2
      obtain ⟨i0, hi0, hz0a, hz1a, hz2a⟩ := info_parts infoNode
      have e1 : (0 : Int) ≤ k := by omega
      have e2 : (k : Int) < nN := by omega
      go_upto_region 6 with fail
      rw [Hzn.out, HW5.out]
      clear q0 q1 q2 x0
      refine wp_region_held_drew (S := fun W' => (W'.cell? ⟨zn, 0, none⟩ = some (.int .i64 id) ∧ W'.cell? ⟨zn, 1, none⟩ = some (.slice A1 m1 d1) ∧ W'.cell? ⟨zn, 2, none⟩ = some (.slice A2 m2 d2))) (by kernel_rfl) s1.out (fun hHeld => ?_)
      refine Boxed.out ?_
      refine take_want 0 20 ?_ (by kernel_rfl) (by rfl) (by kernel_rfl) (by kernel_rfl) (by kernel_rfl) (fun _ _ _ h => h) hHeld (fun w hSw => ?_) (fun hHeld => ?_)
      rotate_left
      · unfold runsTo
        try dsimp only at hSw
        go_simp
        first | done | with_reducible rfl
      simp only [Act.put, List.setIfInBounds_toArray, List.set_cons_zero, List.set_cons_succ]
      refine take_want 2 22 ?_ (by kernel_rfl) (by rfl) (by kernel_rfl) (by kernel_rfl) (by kernel_rfl) (fun _ _ _ h => h) hHeld (fun w hSw => ?_) (fun hHeld => ?_)
      rotate_left
      · unfold runsTo
        try dsimp only at hSw
        go_simp
        first | done | with_reducible rfl
      simp only [Act.put, List.setIfInBounds_toArray, List.set_cons_zero, List.set_cons_succ]
      refine take_want 3 23 ?_ (by kernel_rfl) (by rfl) (by kernel_rfl) (by kernel_rfl) (by kernel_rfl) (fun _ _ _ h => h) hHeld (fun w hSw => ?_) (fun hHeld => ?_)
      rotate_left
      · unfold runsTo
        try dsimp only at hSw
        go_simp
        first | done | with_reducible rfl
      simp only [Act.put, List.setIfInBounds_toArray, List.set_cons_zero, List.set_cons_succ]
      refine take_want 4 24 ?_ (by kernel_rfl) (by rfl) (by kernel_rfl) (by kernel_rfl) (by kernel_rfl) (fun _ _ _ h => h) hHeld (fun w hSw => ?_) (fun hHeld => ?_)
      rotate_left
      · unfold runsTo
        try dsimp only at hSw
        go_simp
        first | done | with_reducible rfl
      simp only [Act.put, List.setIfInBounds_toArray, List.set_cons_zero, List.set_cons_succ]
      refine take_want 5 25 ?_ (by kernel_rfl) (by rfl) (by kernel_rfl) (by kernel_rfl) (by kernel_rfl) (fun _ _ _ h => h) hHeld (fun w hSw => ?_) (fun hHeld => ?_)
      rotate_left
      · unfold runsTo
        try dsimp only at hSw
        go_simp
        first | done | with_reducible rfl
      simp only [Act.put, List.setIfInBounds_toArray, List.set_cons_zero, List.set_cons_succ]
      refine take_want 7 27 ?_ (by kernel_rfl) (by rfl) (by kernel_rfl) (by kernel_rfl) (by kernel_rfl) (fun _ _ _ h => h) hHeld (fun w hSw => ?_) (fun hHeld => ?_)
      rotate_left
      · unfold runsTo
        try dsimp only at hSw
        go_simp
        first | done | with_reducible rfl
      simp only [Act.put, List.setIfInBounds_toArray, List.set_cons_zero, List.set_cons_succ]
      refine take_want 8 28 ?_ (by kernel_rfl) (by rfl) (by kernel_rfl) (by kernel_rfl) (by kernel_rfl) (fun _ _ _ h => h) hHeld (fun w hSw => ?_) (fun hHeld => ?_)
      rotate_left
      · unfold runsTo
        try dsimp only at hSw
        go_simp
        first | done | with_reducible rfl
      simp only [Act.put, List.setIfInBounds_toArray, List.set_cons_zero, List.set_cons_succ]
      refine take_two 1 6 (by kernel_rfl) (by rfl) (by rfl) (fun K hK => ?_) (fun K hK => ?_)
      · skip
        unfold wpAt
        go_simp
        refine hK.out _ _ hHeld (fun hHeld => ?_)
        clear hK K
        try simp only [Act.put, List.setIfInBounds_toArray, List.set_cons_zero, List.set_cons_succ]
        refine take_call 6 (by kernel_rfl) (by rfl) (fun K hK => ?_)
        unfold wpAt
        go_simp
        go_at_call 23
        (with_reducible refine hnT.out.mono ?_)
        rintro e wA ⟨sA', rfl, hbA, hoA⟩
        obtain ⟨A6, c6, rfl⟩ := hoA.form
        rw [Hm1.out] at hoA ⊢
        have HBA := Lib.hid (show Below w5.heap.size w5 wA from below_of_drew hbA)
        have HOA := Lib.hid hoA
        have sA := Lib.hid (HSW.out wA HBA.out)
        have gA : wA.cell? ⟨z + 1, 0, none⟩ = some (.slice A3 k c3) := Lib.cell_of_heap (HGW.out wA HBA.out) 0
        clear hbA hoA
        refine hK.out _ _ sA.out (fun hHeld => ?_)
        clear hK K
        try simp only [Act.put, List.setIfInBounds_toArray, List.set_cons_zero, List.set_cons_succ]
        refine take_call 9 (by kernel_rfl) (by rfl) (fun K hK => ?_)
        unfold wpAt
        go_simp
        go_at_call 24
        (with_reducible refine (hnP.out wA HBA.out).mono ?_)
        rintro e w6 ⟨sB', rfl, hbB, hoB⟩
        obtain ⟨B6, cb6, rfl⟩ := hoB.form
        rw [Hm2.out] at hoB ⊢
        have HBB := Lib.hid hbB
        have HOB := Lib.hid hoB
        have HB6 := Lib.hid (show Below w5.heap.size w5 w6 from HBA.out.trans (hbB.mono HBA.out.size))
        have HSZ6 := Lib.hid (show z + 1 < w6.heap.size from by have h1 : w5.heap.size ≤ w6.heap.size := HB6.out.size; have := hzw5.out; omega)
        have HBR6 := Lib.hid (show Below wr.heap.size wr w6 from HB5.out.trans (HB6.out.mono HB5.out.size))
        have HROW6 := Lib.hid ((Turn.of_below HBR6.out).owns HI.out.row (fun g hg h => by have := HFW.out g hg; have h2 : wr.heap.size ≤ g := h; omega))
        have g6a : w6.cell? ⟨z + 1, 0, none⟩ = some (.slice A3 k c3) := Lib.cell_of_heap (HGW.out w6 HB6.out) 0
        have g6b : (w6.alloc (.cells #[.int .i64 id, .slice A6 m1 c6, .slice B6 m2 cb6] 38)).cell? ⟨z + 1, 0, none⟩ = some (.slice A3 k c3) := (World.cell?_alloc_lt w6 _ _ (by show z + 1 < _; exact HSZ6.out)).trans g6a
        have HONE := Lib.hid (show ∀ u ∈ ([.int .i64 id, .slice A6 m1 c6, .slice B6 m2 cb6] : List Value), u.oneCell' = true from fun u hu => by simp at hu; rcases hu with rfl | rfl | rfl <;> rfl)
        have NB := Lib.hid (heap_alloc_new w6 (.cells #[.int .i64 id, .slice A6 m1 c6, .slice B6 m2 cb6] 38))
        have HS6 := Lib.hid (show (w6.alloc (.cells #[.int .i64 id, .slice A6 m1 c6, .slice B6 m2 cb6] 38)).heap.size = w6.heap.size + 1 by simp)
        have sB := Lib.hid (HSW.out w6 HB6.out)
        have sC := Lib.hid (HSW.out _ (HB6.out.alloc HB6.out.size (.cells #[.int .i64 id, .slice A6 m1 c6, .slice B6 m2 cb6] 38)))
        clear hbB hoB
        refine hK.out _ _ sB.out (fun hHeld => ?_)
        clear hK K
        try simp only [Act.put, List.setIfInBounds_toArray, List.set_cons_zero, List.set_cons_succ]
        refine take_want 10 30 ?_ (by kernel_rfl) (by rfl) (by kernel_rfl) (by kernel_rfl) (by kernel_rfl) (fun _ _ _ h => h) hHeld (fun w hSw => ?_) (fun hHeld => ?_)
        rotate_left
        · unfold runsTo
          try dsimp only at hSw
          go_simp
          first | done | with_reducible rfl
        simp only [Act.put, List.setIfInBounds_toArray, List.set_cons_zero, List.set_cons_succ]
        refine take_call 11 (by kernel_rfl) (by rfl) (fun K hK => ?_)
        unfold wpAt
        go_simp
        refine hK.out _ _ sC.out (fun hHeld => ?_)
        clear hK K
        try simp only [Act.put, List.setIfInBounds_toArray, List.set_cons_zero, List.set_cons_succ]
        refine take_call 12 (by kernel_rfl) (by rfl) (fun K hK => ?_)
        change Oper.wp _ _ _ _ _ _
        refine wp_append_lies _ _ _ 22 rfl 0 38 i0 (.agg #[.int .i64 0, .slice none 0 0, .slice none 0 0]) 3 56 Tryz.underlying22 hi0 hz0a hz1a hz2a rfl (by decide) (.slice A3 k c3) k (flatC cs k) rfl (by exact HROW6.out.alloc _) ⟨w6.heap.size, 0, none⟩ 1 1 [.int .i64 id, .slice A6 m1 c6, .slice B6 m2 cb6] rfl rfl (World.news_of_block (cs := #[.int .i64 id, .slice A6 m1 c6, .slice B6 m2 cb6]) (by exact NB.out)) HONE.out (by omega) (by unfold maxLen; omega) (by omega) (Nat.zero_le _) (w6.heap.size + 1) (by exact HS6.out) (fun g7 c7 w7 ho7 hg7 hl7 _ => ?_)
        have HO7 := Lib.hid ho7
        have HG7 := Lib.hid (show w6.grownBy w7 (Value.slice A3 k c3).ownBlock from grown_after (w := w6) (o := .cells #[.int .i64 id, .slice A6 m1 c6, .slice B6 m2 cb6] 38) ⟨hg7.os, hg7.tape, hg7.output, hg7.size, hg7.block⟩)
        have HL7 := Lib.hid (show (Value.slice A3 k c3).ownBlock = some g7 ∨ g7 = w6.heap.size + 1 from hl7)
        have HC7 := Lib.hid ((HG7.out.block (z + 1) (by have := HSZ6.out; omega) (fun e => by have := HFW.out (z + 1) e.symm; omega)).trans (HGW.out w6 HB6.out))
        have f7 : w7.frozen? ⟨z + 1, 0, none⟩ = false := Lib.frozen_of_heap HC7.out 0
        have g7c : w7.cell? ⟨z + 1, 0, none⟩ = some (.slice A3 k c3) := Lib.cell_of_heap HC7.out 0
        have HZ7 := Lib.hid (fun (j : Nat) => (show w7.cell? ⟨zn, j, none⟩ = w6.cell? ⟨zn, j, none⟩ from (Turn.of_grown HG7.out).cell (p := ⟨zn, j, none⟩) (show zn < w6.heap.size from by have h1 : w5.heap.size ≤ w6.heap.size := HB6.out.size; have := hzn5.out; omega) (fun e => by have := (HFW.out zn e.symm).2; have := hznr.out; omega)))
        have s7 := Lib.hid (show (w7.cell? ⟨zn, 0, none⟩ = some (.int .i64 id) ∧ w7.cell? ⟨zn, 1, none⟩ = some (.slice A1 m1 d1) ∧ w7.cell? ⟨zn, 2, none⟩ = some (.slice A2 m2 d2)) from ⟨(HZ7.out 0).trans sB.out.1, (HZ7.out 1).trans sB.out.2.1, (HZ7.out 2).trans sB.out.2.2⟩)
        have HNE7 := Lib.hid (show (⟨z + 1, 0, none⟩ : Addr).block ≠ zn from (by show z + 1 ≠ zn; have := hzw0.out; have := hznr.out; omega))
        have s8 := Lib.hid (show ((w7.setCell ⟨z + 1, 0, none⟩ (.slice (some ⟨g7, 0, none⟩) (k + 1) c7)).cell? ⟨zn, 0, none⟩ = some (.int .i64 id) ∧ (w7.setCell ⟨z + 1, 0, none⟩ (.slice (some ⟨g7, 0, none⟩) (k + 1) c7)).cell? ⟨zn, 1, none⟩ = some (.slice A1 m1 d1) ∧ (w7.setCell ⟨z + 1, 0, none⟩ (.slice (some ⟨g7, 0, none⟩) (k + 1) c7)).cell? ⟨zn, 2, none⟩ = some (.slice A2 m2 d2)) from ⟨(World.cell?_setCell_far _ _ _ _ HNE7.out).trans s7.out.1, (World.cell?_setCell_far _ _ _ _ HNE7.out).trans s7.out.2.1, (World.cell?_setCell_far _ _ _ _ HNE7.out).trans s7.out.2.2⟩)
        clear ho7 hg7 hl7
        refine hK.out _ _ s7.out (fun hHeld => ?_)
        clear hK K
        try simp only [Act.put, List.setIfInBounds_toArray]
        refine take_want 13 33 ?_ (by kernel_rfl) (by rfl) (by kernel_rfl) (by kernel_rfl) (by kernel_rfl) (fun _ _ _ h => h) hHeld (fun w hSw => ?_) (fun hHeld => ?_)
        rotate_left
        · unfold runsTo
          try dsimp only at hSw
          go_simp
          first | done | with_reducible rfl
        simp only [Act.put]
        refine take_call 14 (by kernel_rfl) (by rfl) (fun K hK => ?_)
        unfold wpAt
        go_simp
        refine hK.out _ _ s8.out (fun hHeld => ?_)
        clear hK K
        try simp only [Act.put]
        refine ⟨wpAnyH_done (by kernel_rfl) ?_ _⟩
        have w1 : IntKind.i64.wrap ((k : Int) + 1) = (k : Int) + 1 := IntWalk.i64_in _ (by omega)
        go_wp2_with fail
        go_roundw
        case measure => simp [intOf]; omega
        case rel =>
          refine ⟨k + 1, .slice (some ⟨g7, 0, none⟩) (k + 1) c7, by omega, by go_num, Lib.hid ?_⟩
          rw [take_oneMore HX.out]
          have hsA : w5.heap.size ≤ wA.heap.size := HBA.out.size
          have hsB : wA.heap.size ≤ w6.heap.size := HBB.out.size
          have hno : NoO w6 (fun b => wr.heap.size ≤ b ∧ b < w6.heap.size) x #[.int .i64 id, .slice A6 m1 c6, .slice B6 m2 cb6] := by
            refine ⟨_, _, wA.heap.size, by rw [Hxid.out], ?_, ?_⟩
            · exact (HOA.out.turn TxR.good (Turn.of_below HBB.out) (fun b hb => hb.2) (fun b hb h => by have := hb.2; omega)).mono TxR.good (fun b hb => ⟨⟨by have h1 : w5.heap.size ≤ b := hb.1; omega, by have := hb.2; omega⟩, hb.2⟩)
            · exact HOB.out.mono PaR.good (fun b hb => ⟨⟨by have := hb.1; omega, hb.2⟩, hb.1⟩)
          exact Cg1.more HMX.out HI.out HBR6.out hno rfl HG7.out (by rcases HL7.out with h | h; exact .inl h; exact .inr (by omega)) HO7.out
      · skip
        unfold wpAt
        go_simp
        go_at_call 23
        (with_reducible refine hnT.out.mono ?_)
        rintro e wA ⟨sA', rfl, hbA, hoA⟩
        obtain ⟨A6, c6, rfl⟩ := hoA.form
        rw [Hm1.out] at hoA ⊢
        have HBA := Lib.hid (show Below w5.heap.size w5 wA from below_of_drew hbA)
        have HOA := Lib.hid hoA
        have sA := Lib.hid (HSW.out wA HBA.out)
        have gA : wA.cell? ⟨z + 1, 0, none⟩ = some (.slice A3 k c3) := Lib.cell_of_heap (HGW.out wA HBA.out) 0
        clear hbA hoA
        refine hK.out _ _ sA.out (fun hHeld => ?_)
        clear hK K
        try simp only [Act.put, List.setIfInBounds_toArray, List.set_cons_zero, List.set_cons_succ]
        refine take_two 1 9 (by kernel_rfl) (by rfl) (by rfl) (fun K hK => ?_) (fun K hK => ?_)
        · skip
          unfold wpAt
          go_simp
          refine hK.out _ _ hHeld (fun hHeld => ?_)
          clear hK K
          try simp only [Act.put, List.setIfInBounds_toArray, List.set_cons_zero, List.set_cons_succ]
          refine take_call 9 (by kernel_rfl) (by rfl) (fun K hK => ?_)
          unfold wpAt
          go_simp
          go_at_call 24
          (with_reducible refine (hnP.out wA HBA.out).mono ?_)
          rintro e w6 ⟨sB', rfl, hbB, hoB⟩
          obtain ⟨B6, cb6, rfl⟩ := hoB.form
          rw [Hm2.out] at hoB ⊢
          have HBB := Lib.hid hbB
          have HOB := Lib.hid hoB
          have HB6 := Lib.hid (show Below w5.heap.size w5 w6 from HBA.out.trans (hbB.mono HBA.out.size))
          have HSZ6 := Lib.hid (show z + 1 < w6.heap.size from by have h1 : w5.heap.size ≤ w6.heap.size := HB6.out.size; have := hzw5.out; omega)
          have HBR6 := Lib.hid (show Below wr.heap.size wr w6 from HB5.out.trans (HB6.out.mono HB5.out.size))
          have HROW6 := Lib.hid ((Turn.of_below HBR6.out).owns HI.out.row (fun g hg h => by have := HFW.out g hg; have h2 : wr.heap.size ≤ g := h; omega))
          have g6a : w6.cell? ⟨z + 1, 0, none⟩ = some (.slice A3 k c3) := Lib.cell_of_heap (HGW.out w6 HB6.out) 0
          have g6b : (w6.alloc (.cells #[.int .i64 id, .slice A6 m1 c6, .slice B6 m2 cb6] 38)).cell? ⟨z + 1, 0, none⟩ = some (.slice A3 k c3) := (World.cell?_alloc_lt w6 _ _ (by show z + 1 < _; exact HSZ6.out)).trans g6a
          have HONE := Lib.hid (show ∀ u ∈ ([.int .i64 id, .slice A6 m1 c6, .slice B6 m2 cb6] : List Value), u.oneCell' = true from fun u hu => by simp at hu; rcases hu with rfl | rfl | rfl <;> rfl)
          have NB := Lib.hid (heap_alloc_new w6 (.cells #[.int .i64 id, .slice A6 m1 c6, .slice B6 m2 cb6] 38))
          have HS6 := Lib.hid (show (w6.alloc (.cells #[.int .i64 id, .slice A6 m1 c6, .slice B6 m2 cb6] 38)).heap.size = w6.heap.size + 1 by simp)
          have sB := Lib.hid (HSW.out w6 HB6.out)
          have sC := Lib.hid (HSW.out _ (HB6.out.alloc HB6.out.size (.cells #[.int .i64 id, .slice A6 m1 c6, .slice B6 m2 cb6] 38)))
          clear hbB hoB
          refine hK.out _ _ sB.out (fun hHeld => ?_)
          clear hK K
          try simp only [Act.put, List.setIfInBounds_toArray, List.set_cons_zero, List.set_cons_succ]
          refine take_want 10 30 ?_ (by kernel_rfl) (by rfl) (by kernel_rfl) (by kernel_rfl) (by kernel_rfl) (fun _ _ _ h => h) hHeld (fun w hSw => ?_) (fun hHeld => ?_)
          rotate_left
          · unfold runsTo
            try dsimp only at hSw
            go_simp
            first | done | with_reducible rfl
          simp only [Act.put, List.setIfInBounds_toArray, List.set_cons_zero, List.set_cons_succ]
          refine take_call 11 (by kernel_rfl) (by rfl) (fun K hK => ?_)
          unfold wpAt
          go_simp
          refine hK.out _ _ sC.out (fun hHeld => ?_)
          clear hK K
          try simp only [Act.put, List.setIfInBounds_toArray, List.set_cons_zero, List.set_cons_succ]
          refine take_call 12 (by kernel_rfl) (by rfl) (fun K hK => ?_)
          change Oper.wp _ _ _ _ _ _
          refine wp_append_lies _ _ _ 22 rfl 0 38 i0 (.agg #[.int .i64 0, .slice none 0 0, .slice none 0 0]) 3 56 Tryz.underlying22 hi0 hz0a hz1a hz2a rfl (by decide) (.slice A3 k c3) k (flatC cs k) rfl (by exact HROW6.out.alloc _) ⟨w6.heap.size, 0, none⟩ 1 1 [.int .i64 id, .slice A6 m1 c6, .slice B6 m2 cb6] rfl rfl (World.news_of_block (cs := #[.int .i64 id, .slice A6 m1 c6, .slice B6 m2 cb6]) (by exact NB.out)) HONE.out (by omega) (by unfold maxLen; omega) (by omega) (Nat.zero_le _) (w6.heap.size + 1) (by exact HS6.out) (fun g7 c7 w7 ho7 hg7 hl7 _ => ?_)
          have HO7 := Lib.hid ho7
          have HG7 := Lib.hid (show w6.grownBy w7 (Value.slice A3 k c3).ownBlock from grown_after (w := w6) (o := .cells #[.int .i64 id, .slice A6 m1 c6, .slice B6 m2 cb6] 38) ⟨hg7.os, hg7.tape, hg7.output, hg7.size, hg7.block⟩)
          have HL7 := Lib.hid (show (Value.slice A3 k c3).ownBlock = some g7 ∨ g7 = w6.heap.size + 1 from hl7)
          have HC7 := Lib.hid ((HG7.out.block (z + 1) (by have := HSZ6.out; omega) (fun e => by have := HFW.out (z + 1) e.symm; omega)).trans (HGW.out w6 HB6.out))
          have f7 : w7.frozen? ⟨z + 1, 0, none⟩ = false := Lib.frozen_of_heap HC7.out 0
          have g7c : w7.cell? ⟨z + 1, 0, none⟩ = some (.slice A3 k c3) := Lib.cell_of_heap HC7.out 0
          have HZ7 := Lib.hid (fun (j : Nat) => (show w7.cell? ⟨zn, j, none⟩ = w6.cell? ⟨zn, j, none⟩ from (Turn.of_grown HG7.out).cell (p := ⟨zn, j, none⟩) (show zn < w6.heap.size from by have h1 : w5.heap.size ≤ w6.heap.size := HB6.out.size; have := hzn5.out; omega) (fun e => by have := (HFW.out zn e.symm).2; have := hznr.out; omega)))
          have s7 := Lib.hid (show (w7.cell? ⟨zn, 0, none⟩ = some (.int .i64 id) ∧ w7.cell? ⟨zn, 1, none⟩ = some (.slice A1 m1 d1) ∧ w7.cell? ⟨zn, 2, none⟩ = some (.slice A2 m2 d2)) from ⟨(HZ7.out 0).trans sB.out.1, (HZ7.out 1).trans sB.out.2.1, (HZ7.out 2).trans sB.out.2.2⟩)
          have HNE7 := Lib.hid (show (⟨z + 1, 0, none⟩ : Addr).block ≠ zn from (by show z + 1 ≠ zn; have := hzw0.out; have := hznr.out; omega))
          have s8 := Lib.hid (show ((w7.setCell ⟨z + 1, 0, none⟩ (.slice (some ⟨g7, 0, none⟩) (k + 1) c7)).cell? ⟨zn, 0, none⟩ = some (.int .i64 id) ∧ (w7.setCell ⟨z + 1, 0, none⟩ (.slice (some ⟨g7, 0, none⟩) (k + 1) c7)).cell? ⟨zn, 1, none⟩ = some (.slice A1 m1 d1) ∧ (w7.setCell ⟨z + 1, 0, none⟩ (.slice (some ⟨g7, 0, none⟩) (k + 1) c7)).cell? ⟨zn, 2, none⟩ = some (.slice A2 m2 d2)) from ⟨(World.cell?_setCell_far _ _ _ _ HNE7.out).trans s7.out.1, (World.cell?_setCell_far _ _ _ _ HNE7.out).trans s7.out.2.1, (World.cell?_setCell_far _ _ _ _ HNE7.out).trans s7.out.2.2⟩)
          clear ho7 hg7 hl7
          refine hK.out _ _ s7.out (fun hHeld => ?_)
          clear hK K
          try simp only [Act.put, List.setIfInBounds_toArray]
          refine take_want 13 33 ?_ (by kernel_rfl) (by rfl) (by kernel_rfl) (by kernel_rfl) (by kernel_rfl) (fun _ _ _ h => h) hHeld (fun w hSw => ?_) (fun hHeld => ?_)
          rotate_left
          · unfold runsTo
            try dsimp only at hSw
            go_simp
            first | done | with_reducible rfl
          simp only [Act.put]
          refine take_call 14 (by kernel_rfl) (by rfl) (fun K hK => ?_)
          unfold wpAt
          go_simp
          refine hK.out _ _ s8.out (fun hHeld => ?_)
          clear hK K
          try simp only [Act.put]
          refine ⟨wpAnyH_done (by kernel_rfl) ?_ _⟩
          have w1 : IntKind.i64.wrap ((k : Int) + 1) = (k : Int) + 1 := IntWalk.i64_in _ (by omega)
          go_wp2_with fail
          go_roundw
          case measure => simp [intOf]; omega
          case rel =>
            refine ⟨k + 1, .slice (some ⟨g7, 0, none⟩) (k + 1) c7, by omega, by go_num, Lib.hid ?_⟩
            rw [take_oneMore HX.out]
            have hsA : w5.heap.size ≤ wA.heap.size := HBA.out.size
            have hsB : wA.heap.size ≤ w6.heap.size := HBB.out.size
            have hno : NoO w6 (fun b => wr.heap.size ≤ b ∧ b < w6.heap.size) x #[.int .i64 id, .slice A6 m1 c6, .slice B6 m2 cb6] := by
              refine ⟨_, _, wA.heap.size, by rw [Hxid.out], ?_, ?_⟩
              · exact (HOA.out.turn TxR.good (Turn.of_below HBB.out) (fun b hb => hb.2) (fun b hb h => by have := hb.2; omega)).mono TxR.good (fun b hb => ⟨⟨by have h1 : w5.heap.size ≤ b := hb.1; omega, by have := hb.2; omega⟩, hb.2⟩)
              · exact HOB.out.mono PaR.good (fun b hb => ⟨⟨by have := hb.1; omega, hb.2⟩, hb.1⟩)
            exact Cg1.more HMX.out HI.out HBR6.out hno rfl HG7.out (by rcases HL7.out with h | h; exact .inl h; exact .inr (by omega)) HO7.out
        · skip
          unfold wpAt
          go_simp
          go_at_call 24
          (with_reducible refine (hnP.out wA HBA.out).mono ?_)
          rintro e w6 ⟨sB', rfl, hbB, hoB⟩
          obtain ⟨B6, cb6, rfl⟩ := hoB.form
          rw [Hm2.out] at hoB ⊢
          have HBB := Lib.hid hbB
          have HOB := Lib.hid hoB
          have HB6 := Lib.hid (show Below w5.heap.size w5 w6 from HBA.out.trans (hbB.mono HBA.out.size))
          have HSZ6 := Lib.hid (show z + 1 < w6.heap.size from by have h1 : w5.heap.size ≤ w6.heap.size := HB6.out.size; have := hzw5.out; omega)
          have HBR6 := Lib.hid (show Below wr.heap.size wr w6 from HB5.out.trans (HB6.out.mono HB5.out.size))
          have HROW6 := Lib.hid ((Turn.of_below HBR6.out).owns HI.out.row (fun g hg h => by have := HFW.out g hg; have h2 : wr.heap.size ≤ g := h; omega))
          have g6a : w6.cell? ⟨z + 1, 0, none⟩ = some (.slice A3 k c3) := Lib.cell_of_heap (HGW.out w6 HB6.out) 0
          have g6b : (w6.alloc (.cells #[.int .i64 id, .slice A6 m1 c6, .slice B6 m2 cb6] 38)).cell? ⟨z + 1, 0, none⟩ = some (.slice A3 k c3) := (World.cell?_alloc_lt w6 _ _ (by show z + 1 < _; exact HSZ6.out)).trans g6a
          have HONE := Lib.hid (show ∀ u ∈ ([.int .i64 id, .slice A6 m1 c6, .slice B6 m2 cb6] : List Value), u.oneCell' = true from fun u hu => by simp at hu; rcases hu with rfl | rfl | rfl <;> rfl)
          have NB := Lib.hid (heap_alloc_new w6 (.cells #[.int .i64 id, .slice A6 m1 c6, .slice B6 m2 cb6] 38))
          have HS6 := Lib.hid (show (w6.alloc (.cells #[.int .i64 id, .slice A6 m1 c6, .slice B6 m2 cb6] 38)).heap.size = w6.heap.size + 1 by simp)
          have sB := Lib.hid (HSW.out w6 HB6.out)
          have sC := Lib.hid (HSW.out _ (HB6.out.alloc HB6.out.size (.cells #[.int .i64 id, .slice A6 m1 c6, .slice B6 m2 cb6] 38)))
          clear hbB hoB
          refine hK.out _ _ sB.out (fun hHeld => ?_)
          clear hK K
          try simp only [Act.put, List.setIfInBounds_toArray, List.set_cons_zero, List.set_cons_succ]
          refine take_want 10 30 ?_ (by kernel_rfl) (by rfl) (by kernel_rfl) (by kernel_rfl) (by kernel_rfl) (fun _ _ _ h => h) hHeld (fun w hSw => ?_) (fun hHeld => ?_)
          rotate_left
          · unfold runsTo
            try dsimp only at hSw
            go_simp
            first | done | with_reducible rfl
          simp only [Act.put, List.setIfInBounds_toArray, List.set_cons_zero, List.set_cons_succ]
          refine take_two 1 11 (by kernel_rfl) (by rfl) (by rfl) (fun K hK => ?_) (fun K hK => ?_)
          · skip
            unfold wpAt
            go_simp
            refine hK.out _ _ hHeld (fun hHeld => ?_)
            clear hK K
            try simp only [Act.put, List.setIfInBounds_toArray, List.set_cons_zero, List.set_cons_succ]
            refine take_call 11 (by kernel_rfl) (by rfl) (fun K hK => ?_)
            unfold wpAt
            go_simp
            refine hK.out _ _ sC.out (fun hHeld => ?_)
            clear hK K
            try simp only [Act.put, List.setIfInBounds_toArray, List.set_cons_zero, List.set_cons_succ]
            refine take_call 12 (by kernel_rfl) (by rfl) (fun K hK => ?_)
            change Oper.wp _ _ _ _ _ _
            refine wp_append_lies _ _ _ 22 rfl 0 38 i0 (.agg #[.int .i64 0, .slice none 0 0, .slice none 0 0]) 3 56 Tryz.underlying22 hi0 hz0a hz1a hz2a rfl (by decide) (.slice A3 k c3) k (flatC cs k) rfl (by exact HROW6.out.alloc _) ⟨w6.heap.size, 0, none⟩ 1 1 [.int .i64 id, .slice A6 m1 c6, .slice B6 m2 cb6] rfl rfl (World.news_of_block (cs := #[.int .i64 id, .slice A6 m1 c6, .slice B6 m2 cb6]) (by exact NB.out)) HONE.out (by omega) (by unfold maxLen; omega) (by omega) (Nat.zero_le _) (w6.heap.size + 1) (by exact HS6.out) (fun g7 c7 w7 ho7 hg7 hl7 _ => ?_)
            have HO7 := Lib.hid ho7
            have HG7 := Lib.hid (show w6.grownBy w7 (Value.slice A3 k c3).ownBlock from grown_after (w := w6) (o := .cells #[.int .i64 id, .slice A6 m1 c6, .slice B6 m2 cb6] 38) ⟨hg7.os, hg7.tape, hg7.output, hg7.size, hg7.block⟩)
            have HL7 := Lib.hid (show (Value.slice A3 k c3).ownBlock = some g7 ∨ g7 = w6.heap.size + 1 from hl7)
            have HC7 := Lib.hid ((HG7.out.block (z + 1) (by have := HSZ6.out; omega) (fun e => by have := HFW.out (z + 1) e.symm; omega)).trans (HGW.out w6 HB6.out))
            have f7 : w7.frozen? ⟨z + 1, 0, none⟩ = false := Lib.frozen_of_heap HC7.out 0
            have g7c : w7.cell? ⟨z + 1, 0, none⟩ = some (.slice A3 k c3) := Lib.cell_of_heap HC7.out 0
            have HZ7 := Lib.hid (fun (j : Nat) => (show w7.cell? ⟨zn, j, none⟩ = w6.cell? ⟨zn, j, none⟩ from (Turn.of_grown HG7.out).cell (p := ⟨zn, j, none⟩) (show zn < w6.heap.size from by have h1 : w5.heap.size ≤ w6.heap.size := HB6.out.size; have := hzn5.out; omega) (fun e => by have := (HFW.out zn e.symm).2; have := hznr.out; omega)))
            have s7 := Lib.hid (show (w7.cell? ⟨zn, 0, none⟩ = some (.int .i64 id) ∧ w7.cell? ⟨zn, 1, none⟩ = some (.slice A1 m1 d1) ∧ w7.cell? ⟨zn, 2, none⟩ = some (.slice A2 m2 d2)) from ⟨(HZ7.out 0).trans sB.out.1, (HZ7.out 1).trans sB.out.2.1, (HZ7.out 2).trans sB.out.2.2⟩)
            have HNE7 := Lib.hid (show (⟨z + 1, 0, none⟩ : Addr).block ≠ zn from (by show z + 1 ≠ zn; have := hzw0.out; have := hznr.out; omega))
            have s8 := Lib.hid (show ((w7.setCell ⟨z + 1, 0, none⟩ (.slice (some ⟨g7, 0, none⟩) (k + 1) c7)).cell? ⟨zn, 0, none⟩ = some (.int .i64 id) ∧ (w7.setCell ⟨z + 1, 0, none⟩ (.slice (some ⟨g7, 0, none⟩) (k + 1) c7)).cell? ⟨zn, 1, none⟩ = some (.slice A1 m1 d1) ∧ (w7.setCell ⟨z + 1, 0, none⟩ (.slice (some ⟨g7, 0, none⟩) (k + 1) c7)).cell? ⟨zn, 2, none⟩ = some (.slice A2 m2 d2)) from ⟨(World.cell?_setCell_far _ _ _ _ HNE7.out).trans s7.out.1, (World.cell?_setCell_far _ _ _ _ HNE7.out).trans s7.out.2.1, (World.cell?_setCell_far _ _ _ _ HNE7.out).trans s7.out.2.2⟩)
            clear ho7 hg7 hl7
            refine hK.out _ _ s7.out (fun hHeld => ?_)
            clear hK K
            try simp only [Act.put, List.setIfInBounds_toArray]
            refine take_want 13 33 ?_ (by kernel_rfl) (by rfl) (by kernel_rfl) (by kernel_rfl) (by kernel_rfl) (fun _ _ _ h => h) hHeld (fun w hSw => ?_) (fun hHeld => ?_)
            rotate_left
            · unfold runsTo
              try dsimp only at hSw
              go_simp
              first | done | with_reducible rfl
            simp only [Act.put]
            refine take_call 14 (by kernel_rfl) (by rfl) (fun K hK => ?_)
            unfold wpAt
            go_simp
            refine hK.out _ _ s8.out (fun hHeld => ?_)
            clear hK K
            try simp only [Act.put]
            refine ⟨wpAnyH_done (by kernel_rfl) ?_ _⟩
            have w1 : IntKind.i64.wrap ((k : Int) + 1) = (k : Int) + 1 := IntWalk.i64_in _ (by omega)
            go_wp2_with fail
            go_roundw
            case measure => simp [intOf]; omega
            case rel =>
              refine ⟨k + 1, .slice (some ⟨g7, 0, none⟩) (k + 1) c7, by omega, by go_num, Lib.hid ?_⟩
              rw [take_oneMore HX.out]
              have hsA : w5.heap.size ≤ wA.heap.size := HBA.out.size
              have hsB : wA.heap.size ≤ w6.heap.size := HBB.out.size
              have hno : NoO w6 (fun b => wr.heap.size ≤ b ∧ b < w6.heap.size) x #[.int .i64 id, .slice A6 m1 c6, .slice B6 m2 cb6] := by
                refine ⟨_, _, wA.heap.size, by rw [Hxid.out], ?_, ?_⟩
                · exact (HOA.out.turn TxR.good (Turn.of_below HBB.out) (fun b hb => hb.2) (fun b hb h => by have := hb.2; omega)).mono TxR.good (fun b hb => ⟨⟨by have h1 : w5.heap.size ≤ b := hb.1; omega, by have := hb.2; omega⟩, hb.2⟩)
                · exact HOB.out.mono PaR.good (fun b hb => ⟨⟨by have := hb.1; omega, hb.2⟩, hb.1⟩)
              exact Cg1.more HMX.out HI.out HBR6.out hno rfl HG7.out (by rcases HL7.out with h | h; exact .inl h; exact .inr (by omega)) HO7.out
          · skip
            unfold wpAt
            go_simp
            refine hK.out _ _ sC.out (fun hHeld => ?_)
            clear hK K
            try simp only [Act.put, List.setIfInBounds_toArray, List.set_cons_zero, List.set_cons_succ]
            refine take_call 1 (by kernel_rfl) (by rfl) (fun K hK => ?_)
            unfold wpAt
            go_simp
            refine hK.out _ _ hHeld (fun hHeld => ?_)
            clear hK K
            try simp only [Act.put, List.setIfInBounds_toArray, List.set_cons_zero, List.set_cons_succ]
            refine take_call 12 (by kernel_rfl) (by rfl) (fun K hK => ?_)
            change Oper.wp _ _ _ _ _ _
            refine wp_append_lies _ _ _ 22 rfl 0 38 i0 (.agg #[.int .i64 0, .slice none 0 0, .slice none 0 0]) 3 56 Tryz.underlying22 hi0 hz0a hz1a hz2a rfl (by decide) (.slice A3 k c3) k (flatC cs k) rfl (by exact HROW6.out.alloc _) ⟨w6.heap.size, 0, none⟩ 1 1 [.int .i64 id, .slice A6 m1 c6, .slice B6 m2 cb6] rfl rfl (World.news_of_block (cs := #[.int .i64 id, .slice A6 m1 c6, .slice B6 m2 cb6]) (by exact NB.out)) HONE.out (by omega) (by unfold maxLen; omega) (by omega) (Nat.zero_le _) (w6.heap.size + 1) (by exact HS6.out) (fun g7 c7 w7 ho7 hg7 hl7 _ => ?_)
            have HO7 := Lib.hid ho7
            have HG7 := Lib.hid (show w6.grownBy w7 (Value.slice A3 k c3).ownBlock from grown_after (w := w6) (o := .cells #[.int .i64 id, .slice A6 m1 c6, .slice B6 m2 cb6] 38) ⟨hg7.os, hg7.tape, hg7.output, hg7.size, hg7.block⟩)
            have HL7 := Lib.hid (show (Value.slice A3 k c3).ownBlock = some g7 ∨ g7 = w6.heap.size + 1 from hl7)
            have HC7 := Lib.hid ((HG7.out.block (z + 1) (by have := HSZ6.out; omega) (fun e => by have := HFW.out (z + 1) e.symm; omega)).trans (HGW.out w6 HB6.out))
            have f7 : w7.frozen? ⟨z + 1, 0, none⟩ = false := Lib.frozen_of_heap HC7.out 0
            have g7c : w7.cell? ⟨z + 1, 0, none⟩ = some (.slice A3 k c3) := Lib.cell_of_heap HC7.out 0
            have HZ7 := Lib.hid (fun (j : Nat) => (show w7.cell? ⟨zn, j, none⟩ = w6.cell? ⟨zn, j, none⟩ from (Turn.of_grown HG7.out).cell (p := ⟨zn, j, none⟩) (show zn < w6.heap.size from by have h1 : w5.heap.size ≤ w6.heap.size := HB6.out.size; have := hzn5.out; omega) (fun e => by have := (HFW.out zn e.symm).2; have := hznr.out; omega)))
            have s7 := Lib.hid (show (w7.cell? ⟨zn, 0, none⟩ = some (.int .i64 id) ∧ w7.cell? ⟨zn, 1, none⟩ = some (.slice A1 m1 d1) ∧ w7.cell? ⟨zn, 2, none⟩ = some (.slice A2 m2 d2)) from ⟨(HZ7.out 0).trans sB.out.1, (HZ7.out 1).trans sB.out.2.1, (HZ7.out 2).trans sB.out.2.2⟩)
            have HNE7 := Lib.hid (show (⟨z + 1, 0, none⟩ : Addr).block ≠ zn from (by show z + 1 ≠ zn; have := hzw0.out; have := hznr.out; omega))
            have s8 := Lib.hid (show ((w7.setCell ⟨z + 1, 0, none⟩ (.slice (some ⟨g7, 0, none⟩) (k + 1) c7)).cell? ⟨zn, 0, none⟩ = some (.int .i64 id) ∧ (w7.setCell ⟨z + 1, 0, none⟩ (.slice (some ⟨g7, 0, none⟩) (k + 1) c7)).cell? ⟨zn, 1, none⟩ = some (.slice A1 m1 d1) ∧ (w7.setCell ⟨z + 1, 0, none⟩ (.slice (some ⟨g7, 0, none⟩) (k + 1) c7)).cell? ⟨zn, 2, none⟩ = some (.slice A2 m2 d2)) from ⟨(World.cell?_setCell_far _ _ _ _ HNE7.out).trans s7.out.1, (World.cell?_setCell_far _ _ _ _ HNE7.out).trans s7.out.2.1, (World.cell?_setCell_far _ _ _ _ HNE7.out).trans s7.out.2.2⟩)
            clear ho7 hg7 hl7
            refine hK.out _ _ s7.out (fun hHeld => ?_)
            clear hK K
            try simp only [Act.put, List.setIfInBounds_toArray]
            refine take_want 13 33 ?_ (by kernel_rfl) (by rfl) (by kernel_rfl) (by kernel_rfl) (by kernel_rfl) (fun _ _ _ h => h) hHeld (fun w hSw => ?_) (fun hHeld => ?_)
            rotate_left
            · unfold runsTo
              try dsimp only at hSw
              go_simp
              first | done | with_reducible rfl
            simp only [Act.put]
            refine take_call 14 (by kernel_rfl) (by rfl) (fun K hK => ?_)
            unfold wpAt
            go_simp
            refine hK.out _ _ s8.out (fun hHeld => ?_)
            clear hK K
            try simp only [Act.put]
            refine ⟨wpAnyH_done (by kernel_rfl) ?_ _⟩
            have w1 : IntKind.i64.wrap ((k : Int) + 1) = (k : Int) + 1 := IntWalk.i64_in _ (by omega)
            go_wp2_with fail
            go_roundw
            case measure => simp [intOf]; omega
            case rel =>
              refine ⟨k + 1, .slice (some ⟨g7, 0, none⟩) (k + 1) c7, by omega, by go_num, Lib.hid ?_⟩
              rw [take_oneMore HX.out]
              have hsA : w5.heap.size ≤ wA.heap.size := HBA.out.size
              have hsB : wA.heap.size ≤ w6.heap.size := HBB.out.size
              have hno : NoO w6 (fun b => wr.heap.size ≤ b ∧ b < w6.heap.size) x #[.int .i64 id, .slice A6 m1 c6, .slice B6 m2 cb6] := by
                refine ⟨_, _, wA.heap.size, by rw [Hxid.out], ?_, ?_⟩
                · exact (HOA.out.turn TxR.good (Turn.of_below HBB.out) (fun b hb => hb.2) (fun b hb h => by have := hb.2; omega)).mono TxR.good (fun b hb => ⟨⟨by have h1 : w5.heap.size ≤ b := hb.1; omega, by have := hb.2; omega⟩, hb.2⟩)
                · exact HOB.out.mono PaR.good (fun b hb => ⟨⟨by have := hb.1; omega, hb.2⟩, hb.1⟩)
              exact Cg1.more HMX.out HI.out HBR6.out hno rfl HG7.out (by rcases HL7.out with h | h; exact .inl h; exact .inr (by omega)) HO7.out
    · have hke : nN = k := by omega
      have hP2 := hM.out.next
      rw [List.take_of_length_le (by rw [HnN.out, hke]; exact Nat.le_refl _)] at hP2
      obtain ⟨z2, Hz2⟩ := name_itV wr.heap.size
      rw [Hz2.out] at hP2
      have HP2 := Lib.hid hP2
      obtain ⟨wq, Hwq⟩ := name_itV wr
      clear hM hP2
      subst hke
      go_upto_region 7 with fail
      clear x0
      go_wp2_with fail
      go_loopw [6] (fun s wx => ∃ (k : Nat) (Es : Value), k ≤ nE ∧ s = .int .i64 (k : Nat) ∧ Hid (Cg2 w0 z z2 G.nodes (G.edges.take k) Xs Es wx)) (fun s _ => nE - (intOf s).toNat)
      case atStart => exact ⟨0, _, by omega, rfl, Lib.hid (by rw [List.take_zero]; exact HP2.out)⟩
      case round =>
        obtain ⟨k, Es, hk, rfl, hM⟩ := hrel
        have x1 : wr.cell? ⟨zg, 1, none⟩ = some (.slice AE nE cE) := (hM.out.below.cell (p := ⟨zg, 1, none⟩) (by show zg < z; omega)).trans (Lib.cell_of_heap HK0.out 1)
        by_cases hlt : k < nE
        · obtain ⟨x, hx⟩ : ∃ x, G.edges[k]? = some x := ⟨G.edges[k]'(by rw [HnE.out]; exact hlt), List.getElem?_eq_getElem _⟩
          have HX := Lib.hid hx
          have hfx := Lib.hid (HFIT.out.2.2.2 x (List.mem_of_getElem? hx))
          obtain ⟨ad, A2, d2, rfl, hFa, hEd, hl2, q0, q1, q2, q3, q4⟩ := edgesAt (HER.out.under EdR.good hM.out.below (fun b hb => by omega)) hx
          clear hx hFa hEd
          obtain ⟨id, Hxid⟩ := name_itV x.id
          obtain ⟨src, Hsrc⟩ := name_itV x.src
          obtain ⟨dst, Hdst⟩ := name_itV x.dst
          obtain ⟨typ, Htyp⟩ := name_itV x.type
          obtain ⟨m2, Hm2⟩ := name_itV x.props.length
          rw [Hxid.out] at q0
          rw [Hsrc.out] at q1
          rw [Hdst.out] at q2
          rw [Htyp.out] at q3
          rw [Hm2.out] at q4 hl2
          have HL2 := Lib.hid hl2
          obtain ⟨zn, Hzn⟩ := name_itV wr.heap.size
          obtain ⟨w5, HW5⟩ := name_itV (wr.alloc (.cells #[.int .i64 id, .int .i64 src, .int .i64 dst, .string typ, .slice A2 m2 d2] 41))
          have HB5 := Lib.hid (show Below wr.heap.size wr w5 from by rw [← HW5.out]; exact (Below.refl _ _).alloc (Nat.le_refl _) _)
          have HK5 := Lib.hid (show w5.heap[zn]? = some (.cells #[.int .i64 id, .int .i64 src, .int .i64 dst, .string typ, .slice A2 m2 d2] 41 (0, 0)) from by rw [← HW5.out, ← Hzn.out]; exact heap_alloc_new wr _)
          have hlen : (G.edges.take k).length = k := by rw [List.length_take, HnE.out]; omega
          obtain ⟨A3, c3, cs, a, h3, hI⟩ := hM.out.own
          rw [hlen] at h3 hI
          subst h3
          have HI := Lib.hid hI
          have HFW := Lib.hid (show ∀ b, (Value.slice A3 k c3).ownBlock = some b → z2 ≤ b ∧ b < wr.heap.size from hI.own)
          have hzw5 := Lib.hid (show z + 1 < wr.heap.size from blk_lt hM.out.box)
          have hzn5 := Lib.hid (show zn < w5.heap.size from blk_lt HK5.out)
          have hfar1 : z + 2 ≤ z2 := hM.out.loc.1
          have hsz5 : wr.heap.size ≤ w5.heap.size := HB5.out.size
          have hnP := Lib.hid (copyP_any x.props hfx.out.1.2.2 hfx.out.1.2.1 (fun b => b < zg) A2 m2 d2 w5 (fun b hb => by have := hzw5.out; omega) (HL2.out.under PaR.good HB5.out (fun b hb => by have := hzw5.out; omega)))
          have n4 : w5.cell? ⟨zn, 4, none⟩ = some (.slice A2 m2 d2) := Lib.cell_of_heap HK5.out 4
          have HMX := Lib.hid hM.out
          have hM5 := HMX.out.on HB5.out
          have HM5box := Lib.hid hM5.box
          clear hlen hI hM hl2 hM5
          have e1 : (0 : Int) ≤ k := by omega
          have e2 : (k : Int) < nE := by omega
          go_upto_region 11 with fail
          rw [Hzn.out, HW5.out]
          clear q0 q1 q2 q3 q4 x1
          go_wp2_with fail
          refine hnP.out.mono ?_
          rintro e w6 ⟨sB, rfl, hbB, hoB⟩
          obtain ⟨B6, cb6, rfl⟩ := hoB.form
          rw [Hm2.out] at hoB ⊢
          have HOB := Lib.hid hoB
          have HBB := Lib.hid hbB
          have hs56 : w5.heap.size ≤ w6.heap.size := hbB.size
          have HK6 := Lib.hid ((hbB.block zn hzn5.out).trans HK5.out)
          have p4 : w6.cell? ⟨zn, 4, none⟩ = some (.slice A2 m2 d2) := Lib.cell_of_heap HK6.out 4
          have y4 : w6.frozen? ⟨zn, 4, none⟩ = false := Lib.frozen_of_heap HK6.out 4
          clear hbB hoB n4
          go_upto_region 12 with fail
          obtain ⟨w8, HW8⟩ := name_itV (w6.setCell ⟨zn, 4, none⟩ (.slice B6 m2 cb6))
          have HK8 := Lib.hid (show w8.heap[zn]? = some (.cells #[.int .i64 id, .int .i64 src, .int .i64 dst, .string typ, .slice B6 m2 cb6] 41 (0, 0)) from by rw [← HW8.out]; exact heap_setCell_same w6 zn 4 _ _ _ HK6.out)
          have HT8 := Lib.hid (show Turn (fun b => b = zn) w6 w8 from by rw [← HW8.out]; exact (Turn.refl (fun b => b = zn) w6).setCell (p := ⟨zn, 4, none⟩) (.inr rfl) _)
          have hznr := Lib.hid (show zn = wr.heap.size from Hzn.out.symm)
          have HB8 := Lib.hid (show Below wr.heap.size wr w8 from (HB5.out.trans (HBB.out.mono hsz5)).trans (HT8.out.below (fun i _ hi => by have := hznr.out; omega) (by omega)))
          have hs68 : w6.heap.size ≤ w8.heap.size := HT8.out.size
          have HM8 := Lib.hid (HMX.out.on HB8.out)
          have HROW8 := Lib.hid ((Turn.of_below HB8.out).owns HI.out.row (fun g hg h => by have := HFW.out g hg; have h2 : wr.heap.size ≤ g := h; omega))
          rw [HW8.out]
          have g0 : w8.cell? ⟨z + 1, 1, none⟩ = some (.slice A3 k c3) := Lib.cell_of_heap HM8.out.box 1
          have n0 : w8.cell? ⟨zn, 0, none⟩ = some (.int .i64 id) := Lib.cell_of_heap HK8.out 0
          have n1 : w8.cell? ⟨zn, 1, none⟩ = some (.int .i64 src) := Lib.cell_of_heap HK8.out 1
          have n2 : w8.cell? ⟨zn, 2, none⟩ = some (.int .i64 dst) := Lib.cell_of_heap HK8.out 2
          have n3 : w8.cell? ⟨zn, 3, none⟩ = some (.string typ) := Lib.cell_of_heap HK8.out 3
          have n4 : w8.cell? ⟨zn, 4, none⟩ = some (.slice B6 m2 cb6) := Lib.cell_of_heap HK8.out 4
          clear p4 y4
          go_wp2_with (at_builtin; refine app_new rfl _ _ 23 rfl 0 41 (.agg #[.int .i64 0, .int .i64 0, .int .i64 0, .string ⟨#[]⟩, .slice none 0 0]) 5 64 Tryz.underlying23 infoEdge rfl (by decide) (.slice A3 k c3) k (flatC cs k) rfl HROW8.out (Nat.zero_le _) #[.int .i64 id, .int .i64 src, .int .i64 dst, .string typ, .slice B6 m2 cb6] 1 1 rfl rfl (fun u hu => by simp at hu; rcases hu with rfl | rfl | rfl | rfl | rfl <;> rfl) (by omega) (by omega) (by decide) ?_; intro g7 c7 w7 ho7 hg7 hl7; have HO7 := Lib.hid ho7; have HG7 := Lib.hid hg7; have HL7 := Lib.hid hl7; have HC7 := Lib.hid ((hg7.block (z + 1) (by have := hzw5.out; have := HB8.out.size; omega) (fun e => by have := HFW.out (z + 1) e.symm; omega)).trans HM8.out.box); have f7 : w7.frozen? ⟨z + 1, 1, none⟩ = false := Lib.frozen_of_heap HC7.out 1; have g7c : w7.cell? ⟨z + 1, 1, none⟩ = some (.slice A3 k c3) := Lib.cell_of_heap HC7.out 1; have w1 : IntKind.i64.wrap ((k : Int) + 1) = (k : Int) + 1 := (IntWalk.i64_in _ (by omega)); clear ho7 hg7 hl7)
          go_roundw
          case measure => simp [intOf]; omega
          case rel =>
            refine ⟨k + 1, .slice (some ⟨g7, 0, none⟩) (k + 1) c7, by omega, by go_num, Lib.hid ?_⟩
            rw [take_oneMore HX.out]
            have hno : EdO w8 (fun b => wr.heap.size ≤ b ∧ b < w8.heap.size) x #[.int .i64 id, .int .i64 src, .int .i64 dst, .string typ, .slice B6 m2 cb6] := by
              refine ⟨_, by rw [Hxid.out, Hsrc.out, Hdst.out, Htyp.out], ?_⟩
              exact (HOB.out.turn PaR.good HT8.out (fun b hb => hb.2) (fun b hb h => by have := hb.1; have := hzn5.out; omega)).mono PaR.good (fun b hb => ⟨by have := hb.1; omega, by have := hb.2; omega⟩)
            exact Cg2.more HMX.out HI.out HB8.out hno rfl HG7.out HL7.out HO7.out
        · have hke : nE = k := by omega
          have hME := hM.out
          rw [List.take_of_length_le (by rw [HnE.out, hke]; exact Nat.le_refl _)] at hME
          obtain ⟨AX, cX, _, _, hXs, _⟩ := id hME.nodes
          obtain ⟨AY, cY, _, _, hEs, _⟩ := id hME.own
          subst hXs hEs
          have HME := Lib.hid hME
          have hbx : wr.cell? ⟨z + 1, 0, none⟩ = some (.slice AX G.nodes.length cX) := Lib.cell_of_heap hME.box 0
          have hby : wr.cell? ⟨z + 1, 1, none⟩ = some (.slice AY G.edges.length cY) := Lib.cell_of_heap hME.box 1
          have r0 : wr.cell? ⟨z, 0, none⟩ = some (.slice none 0 0) := Lib.cell_of_heap hME.res 0
          have r1 : wr.cell? ⟨z, 1, none⟩ = some (.slice none 0 0) := Lib.cell_of_heap hME.res 1
          have y0 : wr.frozen? ⟨z, 0, none⟩ = false := Lib.frozen_of_heap hME.res 0
          have y1 : wr.frozen? ⟨z, 1, none⟩ = false := Lib.frozen_of_heap hME.res 1
          clear hME hM
          subst hke
          go_upto_region 13 with fail
          clear x1
          go_wp2_with fail
          have h1 := heap_setCell_same _ z 1 _ _ (.slice AY G.edges.length cY) (heap_setCell_same _ z 0 _ _ (.slice AX G.nodes.length cX) HME.out.res)
          have ht := (((Turn.refl (fun b => b = z) wr).setCell (p := ⟨z, 0, none⟩) (.inr rfl) (.slice AX G.nodes.length cX)).setCell (p := ⟨z, 1, none⟩) (.inr rfl) (.slice AY G.edges.length cY))
          obtain ⟨W9, HW9⟩ := name_itV ((wr.setCell ⟨z, 0, none⟩ (.slice AX G.nodes.length cX)).setCell ⟨z, 1, none⟩ (.slice AY G.edges.length cY))
          rw [HW9.out] at h1 ht ⊢
          have k0 : W9.cell? ⟨z, 0, none⟩ = some (.slice AX G.nodes.length cX) := Lib.cell_of_heap h1 0
          have k1' : W9.cell? ⟨z, 1, none⟩ = some (.slice AY G.edges.length cY) := Lib.cell_of_heap h1 1
          have hloc := HME.out.loc
          have hbz := blk_lt HME.out.box
          have hs0 := HB0.out.size
          refine bodyPost_ret (v := .agg #[.slice AX G.nodes.length cX, .slice AY G.edges.length cY]) (by simp [results, Tryz.results9, go_sem, k0, k1']) rfl ⟨_, _, z2, rfl, ?_, ?_, ?_, ?_, ?_⟩
          · exact HB0.out.trans ((HME.out.below.mono (by rw [Hzg.out]; omega)).trans (ht.below (fun i _ h => by rw [Hzg.out]; omega) (by have := HME.out.below.size; omega)))
          · rw [Hzg.out]; omega
          · have := ht.size; omega
          · exact (HME.out.nodes.turn NoO.good ht (fun b _ _ h => by omega)).low (by rw [Hzg.out]; omega)
          · exact (HME.out.own.turn EdO.good ht (fun b _ _ h => by omega)).wide ht.size (Nat.le_refl _)
end Go.Proofs.YtmhjbicbdahllaaGreatDoor

namespace Go.Proofs.YtmhjbicbdahllaaGreatDoor
open Go Go.RowKit

theorem bytes_less (x y : ByteArray) : Op.bytesLess x.toList y.toList = decide (ordS x y < 0) := by
  rw [ByteArray.toList_eq, ByteArray.toList_eq, Go.Proofs.bytesLess_eq]
  congr 1
  rw [ordS_lt]
theorem ordS_tr (a b d : ByteArray) (h1 : ¬ ordS b a < 0) (h2 : ¬ ordS d b < 0) : ¬ ordS d a < 0 := by
  rw [ordS_lt] at *
  exact List.not_lt.2 (List.le_trans (List.not_lt.1 h1) (List.not_lt.1 h2))
theorem ordS_as (a b : ByteArray) (h1 : ordS a b < 0) : ¬ ordS b a < 0 := by
  rw [ordS_lt] at *
  exact List.not_lt.2 (List.le_of_lt h1)
/-- Two neighbours in a row of one's own, to be turned. -/
theorem SOwn.two {α : Type} {E sz : Nat} {R : Lies α} {w : World} {F : Nat → Prop} {l : List α} {A : Option Addr} {n cp k : Nat} {x y : α} (hR : R.GoodT) (h : SOwn E sz R w F l (.slice A n cp)) (hn : l.length = n) (hl : ∀ b, F b → b < w.heap.size) (h0 : 0 < k) (hx : l[k]? = some x) (hy : l[k - 1]? = some y) :
    ∃ g cx cy, A = some ⟨g, 0, none⟩ ∧ F g ∧ cx.size = sz ∧ cy.size = sz ∧ (∀ j, j < sz → w.cell? ⟨g, k * sz + j, none⟩ = cx[j]?) ∧ (∀ j, j < sz → w.cell? ⟨g, (k - 1) * sz + j, none⟩ = cy[j]?) ∧ (∀ j, w.frozen? ⟨g, j, none⟩ = false) ∧
      R w (fun b => F b ∧ b ≠ g) x cx ∧ R w (fun b => F b ∧ b ≠ g) y cy ∧
      ∀ (S : Nat → Prop) (w1 : World), Turn S w w1 → (∀ b, F b → ¬ S b) → SOwn E sz R (setW (setW w1 g (k * sz) cy.toList) g ((k - 1) * sz) cx.toList) F (swapA l k x y) (.slice A n cp) := by
  have hkn : k < n := by rw [← hn]; exact idx_lt hx
  obtain ⟨cs, hrow, hs, hF, hr⟩ := h
  rw [hn] at hrow hs
  obtain ⟨g, cp2, hv, _, _⟩ := hrow.form (by omega)
  injection hv with hA _ hcp
  subst hA
  have hg := hF g rfl
  have hcell : ∀ i j, i < n → j < sz → w.cell? ⟨g, i * sz + j, none⟩ = (cs i)[j]? := fun i j hi hj => by
    have h1 : (i + 1) * sz ≤ n * sz := Nat.mul_le_mul_right sz (by omega)
    rw [Nat.succ_mul] at h1
    have h2 := hrow.cellAt (i * sz + j) (by omega)
    rw [flatC_at hs hi hj] at h2
    exact h2
  have hmono : ∀ {i : Nat} {z : α}, R w (fun b => F b ∧ (Value.slice (some ⟨g, 0, none⟩) n cp).ownBlock ≠ some b) z (cs i) → R w (fun b => F b ∧ b ≠ g) z (cs i) := fun h => hR.mono h fun b hb => ⟨hb.1, fun e => hb.2 (by rw [e]; rfl)⟩
  refine ⟨g, cs k, cs (k - 1), rfl, hg, hs k hkn, hs (k - 1) (by omega), fun j hj => hcell k j hkn hj, fun j hj => hcell (k - 1) j (by omega) hj, fun j => frozen_row hrow rfl j, hmono (hr k x hx), hmono (hr (k - 1) y hy), fun S w1 ht hS => ?_⟩
  have hrow1 := ht.owns hrow (fun b hb => hS b (hF b hb))
  have h2 := own_swap hrow1 hs hkn h0
  have hT := (turn_setW (g := g) (cs (k - 1)).toList (w := w1) (o := k * sz)).trans (turn_setW (g := g) (cs k).toList (w := setW w1 g (k * sz) (cs (k - 1)).toList) (o := (k - 1) * sz))
  refine ⟨swapF cs k, by rw [swapA_length, hn]; exact h2, by rw [swapA_length, hn]; exact swap_size hs hkn h0, fun b hb => hF b hb, fun i z hz => ?_⟩
  have hall : ∀ {i : Nat} {z : α}, l[i]? = some z → R (setW (setW w1 g (k * sz) (cs (k - 1)).toList) g ((k - 1) * sz) (cs k).toList) (fun b => F b ∧ (Value.slice (some ⟨g, 0, none⟩) n cp).ownBlock ≠ some b) z (cs i) := fun hz => by
    have h3 := hR.turn (hr _ _ hz) ht (fun b hb => hl b hb.1) (fun b hb => hS b hb.1)
    exact hR.turn h3 hT (fun b hb => Nat.lt_of_lt_of_le (hl b hb.1) ht.size) (fun b hb e => hb.2 (by rw [e]; rfl))
  rw [swapA_at hx hy h0] at hz
  unfold swapF
  by_cases e : i = k
  · rw [if_pos e] at hz ⊢
    exact hall hz
  · rw [if_neg e] at hz ⊢
    by_cases e2 : i = k - 1
    · rw [if_pos e2] at hz ⊢
      exact hall hz
    · rw [if_neg e2] at hz ⊢
      exact hall hz

theorem turn_drewN {S : Nat → Prop} {w w' : World} (h : Turn S w w') (m : Nat) : Turn S w (w'.drewN m) := ⟨h.os, h.tape, h.output, h.size, h.block⟩
abbrev leT (a b : ByteArray) : Prop := ¬ ordS b a < 0
def SortTIs (F : Nat → Prop) (l : List ByteArray) (s : Value) (w : World) (e : Ending) (w' : World) : Prop :=
  e = .returned (.tuple #[]) ∧ ∃ l' : List ByteArray, SrtT l l' ∧ SOwn 9 1 TxR w' F l' s ∧ Turn (fun b => s.ownBlock = some b) w w'
set_option maxRecDepth 100000 in
set_option maxHeartbeats 4000000 in
theorem sortTexts_any (l : List ByteArray) (F : Nat → Prop) (s : Value) (w : World) (h : SOwn 9 1 TxR w F l s) (hF : ∀ b, F b → b < w.heap.size) (hlen : l.length ≤ 2000000) :
    Calls Tryz.prog 46 #[s] w (SortTIs F l s w) := by
  obtain ⟨A, cp, rfl⟩ := h.form
  obtain ⟨n, Hn⟩ := name_itV l.length
  rw [Hn.out] at h hlen ⊢
  have H := Lib.hid h
  have HF := Lib.hid hF
  clear h hF
  go_enter Tryz.func46, Tryz.ntmps46
  go_wp2_with fail
  go_loopw [2] (fun s2 wx => ∃ (i : Nat) (c : List ByteArray), 1 ≤ i ∧ (i ≤ n ∨ i = 1) ∧ s2 = .int .i64 (i : Nat) ∧ Hid (SrtM leT l i c ∧ SOwn 9 1 TxR wx F c (.slice A n cp) ∧ Turn (fun b => (Value.slice A n cp).ownBlock = some b) w wx)) (fun s _ => n - (intOf s).toNat)
  case atStart => exact ⟨1, l, by omega, .inr rfl, rfl, Lib.hid ⟨SrtM.one, H.out, Turn.refl _ _⟩⟩
  case round =>
    obtain ⟨i, c, hi1, hin, rfl, hM⟩ := hrel
    by_cases hlt : i < n
    · have w0 : IntKind.i64.wrap ((i : Int) + 1) = (i : Int) + 1 := IntWalk.i64_in _ (by omega)
      go_wp2_with fail
      go_loopw [3] (fun s3 wx => ∃ (k : Nat) (c : List ByteArray), k ≤ i ∧ s3 = .int .i64 (k : Nat) ∧ Hid (InsM leT l i k c ∧ SOwn 9 1 TxR wx F c (.slice A n cp) ∧ Turn (fun b => (Value.slice A n cp).ownBlock = some b) w wx)) (fun s _ => (intOf s).toNat)
      case atStart => exact ⟨i, c, Nat.le_refl _, rfl, Lib.hid ⟨hM.out.1.ins, hM.out.2⟩⟩
      case round =>
        clear hM c
        obtain ⟨k, c, hki, rfl, hM⟩ := hrel
        by_cases hk0 : 0 < k
        · have hlc : c.length = n := by rw [hM.out.1.perm.length_eq, Hn.out]
          obtain ⟨x, hx⟩ : ∃ x, c[k]? = some x := ⟨c[k]'(by omega), List.getElem?_eq_getElem _⟩
          obtain ⟨y, hy⟩ : ∃ y, c[k - 1]? = some y := ⟨c[k - 1]'(by omega), List.getElem?_eq_getElem _⟩
          obtain ⟨g, cx, cy, rfl, hFg, _, _, hcx, hcy, hfr, hrx, hry, hsw⟩ := hM.out.2.1.two TxR.good.t hlc (fun b hb => Nat.lt_of_lt_of_le (HF.out b hb) hM.out.2.2.size) hk0 hx hy
          have ex : cx = #[.string x] := hrx
          have ey : cy = #[.string y] := hry
          subst ex ey
          obtain ⟨j, hj⟩ : ∃ j, j = k - 1 := ⟨_, rfl⟩
          have HJ := Lib.hid hj
          have HX := Lib.hid hx
          have HY := Lib.hid hy
          have c1 : wr.cell? ⟨g, k, none⟩ = some (.string x) := by have := hcx 0 (by omega); rw [Nat.mul_one, Nat.add_zero] at this; exact this
          have c2 : wr.cell? ⟨g, j, none⟩ = some (.string y) := by have := hcy 0 (by omega); rw [Nat.mul_one, Nat.add_zero, ← hj] at this; exact this
          have HSWP := Lib.hid (fun (W : World) (ht : Turn (fun _ => False) wr W) => (show SOwn 9 1 TxR ((W.setCell ⟨g, k, none⟩ (.string y)).setCell ⟨g, j, none⟩ (.string x)) F (swapA c k x y) (.slice (some ⟨g, 0, none⟩) n cp) from by
            have := hsw (fun _ => False) W ht (fun _ _ h => h)
            rw [Nat.mul_one, Nat.mul_one] at this
            rw [hj]
            exact this))
          have HFR := Lib.hid hfr
          have a1 := add_zero_at' g k
          have a2 := add_zero_at' g j
          have w2 : IntKind.i64.wrap ((k : Int) - 1) = (j : Int) := by rw [IntWalk.i64_in _ (by omega)]; omega
          have e1 : (0 : Int) ≤ k := by omega
          have e2 : (k : Int) < n := by omega
          have e3 : (0 : Int) ≤ j := by omega
          have e4 : (j : Int) < n := by omega
          have e5 : (0 : Int) < k := by omega
          have HBL := Lib.hid (bytes_less x y)
          have hjk : j < k := by omega
          clear hx hy hcx hcy hfr hrx hry hsw hj
          cases hb : Op.bytesLess x.toList y.toList
          · have HLE := Lib.hid (show ¬ ordS x y < 0 from fun h => by rw [HBL.out] at hb; exact absurd h (of_decide_eq_false hb))
            go_upto_region 4 with fail
            go_quiet (fail)
            go_wp2_with fail
            go_roundw
            case measure => simp [intOf]; omega
            case rel => exact ⟨i + 1, c, by omega, by omega, by go_num, Lib.hid ⟨hM.out.1.stop ordS_tr hk0 hki HX.out HY.out HLE.out, hM.out.2.1.turn TxR.good (turn_drewN (Turn.refl (fun _ => False) wr) nq) (fun b hb => Nat.lt_of_lt_of_le (HF.out b hb) hM.out.2.2.size) (fun _ _ h => h), turn_drewN hM.out.2.2 nq⟩⟩
          · have HLE := Lib.hid (show leT x y from ordS_as x y (by rw [HBL.out] at hb; exact of_decide_eq_true hb))
            go_upto_region 4 with fail
            go_quiet (fail)
            obtain ⟨wq, Hwq⟩ := name_itV (wr.drewN nq)
            have HTQ := Lib.hid (show Turn (fun _ => False) wr wq from by rw [← Hwq.out]; exact turn_drewN (Turn.refl _ _) nq)
            have d1 : wq.cell? ⟨g, k, none⟩ = some (.string x) := by rw [← Hwq.out]; exact c1
            have d2 : wq.cell? ⟨g, j, none⟩ = some (.string y) := by rw [← Hwq.out]; exact c2
            have f1 : wq.frozen? ⟨g, k, none⟩ = false := by rw [← Hwq.out]; exact HFR.out k
            have f2 : wq.frozen? ⟨g, j, none⟩ = false := by rw [← Hwq.out]; exact HFR.out j
            rw [Hwq.out]
            clear c1 c2
            go_wp2_with fail
            go_roundw
            case measure => simp [intOf]; omega
            case rel =>
              have ht := hM.out.2.2.trans (HTQ.out.mono (S' := fun b => (Value.slice (some ⟨g, 0, none⟩) n cp).ownBlock = some b) (fun _ _ h => h.elim))
              refine ⟨j, swapA c k x y, by omega, rfl, Lib.hid ⟨?_, HSWP.out wq HTQ.out, (ht.setCell (p := ⟨g, k, none⟩) (.inr rfl) _).setCell (p := ⟨g, j, none⟩) (.inr rfl) _⟩⟩
              rw [HJ.out]
              exact hM.out.1.step hk0 hki HX.out HY.out HLE.out
        · have hk : k = 0 := by omega
          have HK := Lib.hid hk
          have g2 : decide ((0 : Int) < (k : Int)) = false := decide_eq_false (by omega)
          have g3 : ¬ ((0 : Int) < (k : Int)) := by omega
          clear hk
          go_upto_region 4 with fail
          go_quiet (fail)
          go_wp2_with fail
          go_roundw
          case measure => simp [intOf]; omega
          case rel =>
            refine ⟨i + 1, c, by omega, by omega, by go_num, Lib.hid ⟨?_, hM.out.2.1.turn TxR.good (turn_drewN (Turn.refl (fun _ => False) wr) nq) (fun b hb => Nat.lt_of_lt_of_le (HF.out b hb) hM.out.2.2.size) (fun _ _ h => h), turn_drewN hM.out.2.2 nq⟩⟩
            have h1 := hM.out.1
            rw [HK.out] at h1
            exact h1.low
    · have HD := Lib.hid (show n ≤ i from by omega)
      go_wp2_with fail
      go_end0
      have hd := hM.out.1.done (by rw [Hn.out]; exact HD.out)
      exact ⟨rfl, c, hd, hM.out.2.1, hM.out.2.2⟩
end Go.Proofs.YtmhjbicbdahllaaGreatDoor

namespace Go.Proofs.YtmhjbicbdahllaaGreatDoor
open Go Go.RowKit

abbrev leP (a b : PairD) : Prop := ¬ ordS b.key a.key < 0
theorem leP_tr (a b d : PairD) (h1 : leP a b) (h2 : leP b d) : leP a d := ordS_tr a.key b.key d.key h1 h2
def SortPIs (F : Nat → Prop) (l : List PairD) (s : Value) (w : World) (e : Ending) (w' : World) : Prop :=
  e = .returned (.tuple #[]) ∧ ∃ l' : List PairD, SrtP l l' ∧ SOwn 57 7 PaR w' F l' s ∧ Turn (fun b => s.ownBlock = some b) w w'
theorem frozen_keep {S : Nat → Prop} {w w' : World} {g o : Nat} (h : Turn S w w') (hg : g < w.heap.size) (hS : ¬ S g) (hf : w.frozen? ⟨g, o, none⟩ = false) : w'.frozen? ⟨g, o, none⟩ = false := by
  have hb := h.block g hg hS
  unfold World.frozen? at *
  simpa [hb] using hf
theorem cell_setW' {g p : Nat} (vs : List Value) : ∀ {w : World} {o : Nat}, (p < o ∨ o + vs.length ≤ p) → (setW w g o vs).cell? ⟨g, p, none⟩ = w.cell? ⟨g, p, none⟩ := by
  induction vs with
  | nil => intro w o _; rfl
  | cons v r ih =>
    intro w o h
    simp only [List.length_cons] at h
    refine (ih (w := w.setCell ⟨g, o, none⟩ v) (o := o + 1) (by omega)).trans ?_
    exact World.cell?_setCell_other w _ _ v (fun e => by injection e with _ e; omega)
theorem cell_setW {g p o : Nat} {vs : List Value} {w w' : World} (e : w' = setW w g o vs) (h : p < o ∨ o + vs.length ≤ p) : w'.cell? ⟨g, p, none⟩ = w.cell? ⟨g, p, none⟩ := by rw [e]; exact cell_setW' vs h
theorem frozen_setW' {g p : Nat} (vs : List Value) : ∀ {w : World} {o : Nat}, w.frozen? ⟨g, p, none⟩ = false → (setW w g o vs).frozen? ⟨g, p, none⟩ = false := by
  induction vs with
  | nil => intro w o h; exact h
  | cons v r ih => intro w o h; exact ih (by simpa using h)
theorem frozen_setW {g p o : Nat} {vs : List Value} {w w' : World} (e : w' = setW w g o vs) (h : w.frozen? ⟨g, p, none⟩ = false) : w'.frozen? ⟨g, p, none⟩ = false := by rw [e]; exact frozen_setW' vs h
set_option maxRecDepth 100000 in
set_option maxHeartbeats 8000000 in
theorem sortProps_any (l : List PairD) (F : Nat → Prop) (s : Value) (w : World) (h : SOwn 57 7 PaR w F l s) (hF : ∀ b, F b → b < w.heap.size) (hlen : l.length ≤ 2000000) :
    Calls Tryz.prog 47 #[s] w (SortPIs F l s w) := by
  obtain ⟨A, cp, rfl⟩ := h.form
  obtain ⟨n, Hn⟩ := name_itV l.length
  rw [Hn.out] at h hlen ⊢
  have H := Lib.hid h
  have HF := Lib.hid hF
  clear h hF
  go_enter Tryz.func47, Tryz.ntmps47
  go_wp2_with fail
  go_loopw [2] (fun s2 wx => ∃ (i : Nat) (c : List PairD), 1 ≤ i ∧ (i ≤ n ∨ i = 1) ∧ s2 = .int .i64 (i : Nat) ∧ Hid (SrtM leP l i c ∧ SOwn 57 7 PaR wx F c (.slice A n cp) ∧ Turn (fun b => (Value.slice A n cp).ownBlock = some b) w wx)) (fun s _ => n - (intOf s).toNat)
  case atStart => exact ⟨1, l, by omega, .inr rfl, rfl, Lib.hid ⟨SrtM.one, H.out, Turn.refl _ _⟩⟩
  case round =>
    obtain ⟨i, c, hi1, hin, rfl, hM⟩ := hrel
    by_cases hlt : i < n
    · have w0 : IntKind.i64.wrap ((i : Int) + 1) = (i : Int) + 1 := IntWalk.i64_in _ (by omega)
      go_wp2_with fail
      go_loopw [3] (fun s3 wx => ∃ (k : Nat) (c : List PairD), k ≤ i ∧ s3 = .int .i64 (k : Nat) ∧ Hid (InsM leP l i k c ∧ SOwn 57 7 PaR wx F c (.slice A n cp) ∧ Turn (fun b => (Value.slice A n cp).ownBlock = some b) w wx)) (fun s _ => (intOf s).toNat)
      case atStart => exact ⟨i, c, Nat.le_refl _, rfl, Lib.hid ⟨hM.out.1.ins, hM.out.2⟩⟩
      case round =>
        clear hM c
        obtain ⟨k, c, hki, rfl, hM⟩ := hrel
        by_cases hk0 : 0 < k
        · have hlc : c.length = n := by rw [hM.out.1.perm.length_eq, Hn.out]
          obtain ⟨x, hx⟩ : ∃ x, c[k]? = some x := ⟨c[k]'(by omega), List.getElem?_eq_getElem _⟩
          obtain ⟨y, hy⟩ : ∃ y, c[k - 1]? = some y := ⟨c[k - 1]'(by omega), List.getElem?_eq_getElem _⟩
          obtain ⟨g, cx, cy, rfl, hFg, _, _, hcx, hcy, hfr, hrx, hry, hsw⟩ := hM.out.2.1.two PaR.good.t hlc (fun b hb => Nat.lt_of_lt_of_le (HF.out b hb) hM.out.2.2.size) hk0 hx hy
          obtain ⟨sx, ecx, hvx⟩ := hrx
          obtain ⟨sy, ecy, hvy⟩ := hry
          obtain ⟨BX, cX, hux, _, _⟩ := hvx.inv
          obtain ⟨BY, cY, huy, _, _⟩ := hvy.inv
          have esx : sx = .slice BX x.v.list.length cX := by
            injection hux with hux
            have := congrArg (fun a : Array Value => a[5]?) hux
            simpa [cellsV] using this
          have esy : sy = .slice BY y.v.list.length cY := by
            injection huy with huy
            have := congrArg (fun a : Array Value => a[5]?) huy
            simpa [cellsV] using this
          obtain ⟨lx, Hlx⟩ := name_itV x.v.list.length
          obtain ⟨ly, Hly⟩ := name_itV y.v.list.length
          rw [Hlx.out] at esx
          rw [Hly.out] at esy
          subst esx esy ecx ecy
          unfold cellsP at hcx hcy hsw
          clear hvx hvy hux huy
          obtain ⟨j, hj⟩ : ∃ j, j = k - 1 := ⟨_, rfl⟩
          have HJ := Lib.hid hj
          have HX := Lib.hid hx
          have HY := Lib.hid hy
          rw [← hj] at hcy hsw
          obtain ⟨ok, HOK⟩ := name_itV (k * 7)
          obtain ⟨oj, HOJ⟩ := name_itV (j * 7)
          rw [HOK.out] at hcx hsw
          rw [HOJ.out] at hcy hsw
          have c1 : wr.cell? ⟨g, ok, none⟩ = some (.string x.key) := hcx 0 (by omega)
          have c2 : wr.cell? ⟨g, oj, none⟩ = some (.string y.key) := hcy 0 (by omega)
          have HCX := Lib.hid hcx
          have HCY := Lib.hid hcy
          have HSWP := Lib.hid (fun (W : World) (ht : Turn (fun _ => False) wr W) => (show SOwn 57 7 PaR ((((((((((((((W.setCell ⟨g, ok, none⟩ (.string y.key)).setCell ⟨g, ok + 1, none⟩ (.int .i64 y.v.kind)).setCell ⟨g, ok + 2, none⟩ (.bool y.v.truth)).setCell ⟨g, ok + 3, none⟩ (.int .i64 y.v.num)).setCell ⟨g, ok + 4, none⟩ (.string y.v.text)).setCell ⟨g, ok + 5, none⟩ (.string y.v.extra)).setCell ⟨g, ok + 6, none⟩ (.slice BY ly cY)).setCell ⟨g, oj, none⟩ (.string x.key)).setCell ⟨g, oj + 1, none⟩ (.int .i64 x.v.kind)).setCell ⟨g, oj + 2, none⟩ (.bool x.v.truth)).setCell ⟨g, oj + 3, none⟩ (.int .i64 x.v.num)).setCell ⟨g, oj + 4, none⟩ (.string x.v.text)).setCell ⟨g, oj + 5, none⟩ (.string x.v.extra)).setCell ⟨g, oj + 6, none⟩ (.slice BX lx cX)) F (swapA c k x y) (.slice (some ⟨g, 0, none⟩) n cp) from hsw (fun _ => False) W ht (fun _ _ h => h)))
          have HFR := Lib.hid hfr
          have HFG := Lib.hid (Nat.lt_of_lt_of_le (HF.out g hFg) hM.out.2.2.size)
          have a1 := add_zero_at' g ok
          have a2 := add_zero_at' g oj
          have qk : k * 7 = ok := HOK.out
          have qj : j * 7 = oj := HOJ.out
          have w2 : IntKind.i64.wrap ((k : Int) - 1) = (j : Int) := by rw [IntWalk.i64_in _ (by omega)]; omega
          have e1 : (0 : Int) ≤ k := by omega
          have e2 : (k : Int) < n := by omega
          have e3 : (0 : Int) ≤ j := by omega
          have e4 : (j : Int) < n := by omega
          have e5 : (0 : Int) < k := by omega
          have HBL := Lib.hid (bytes_less x.key y.key)
          have hjk : j < k := by omega
          clear hx hy hcx hcy hfr hsw hj
          cases hb : Op.bytesLess x.key.toList y.key.toList
          · have HLE := Lib.hid (show leP y x from fun h => by rw [HBL.out] at hb; exact absurd h (of_decide_eq_false hb))
            go_upto_region 4 with fail
            go_quiet (fail)
            go_wp2_with fail
            go_roundw
            case measure => simp [intOf]; omega
            case rel => exact ⟨i + 1, c, by omega, by omega, by go_num, Lib.hid ⟨hM.out.1.stop leP_tr hk0 hki HX.out HY.out HLE.out, hM.out.2.1.turn PaR.good (turn_drewN (Turn.refl (fun _ => False) wr) nq) (fun b hb => Nat.lt_of_lt_of_le (HF.out b hb) hM.out.2.2.size) (fun _ _ h => h), turn_drewN hM.out.2.2 nq⟩⟩
          · have HLE := Lib.hid (show leP x y from ordS_as x.key y.key (by rw [HBL.out] at hb; exact of_decide_eq_true hb))
            go_upto_region 4 with fail
            go_quiet (fail)
            obtain ⟨wq, Hwq⟩ := name_itV (wr.drewN nq)
            have HTQ := Lib.hid (show Turn (fun _ => False) wr wq from by rw [← Hwq.out]; exact turn_drewN (Turn.refl _ _) nq)
            have x0 : wq.cell? ⟨g, ok, none⟩ = some (.string x.key) := by rw [← Hwq.out]; exact HCX.out 0 (by omega)
            have x1 : wq.cell? ⟨g, ok + 1, none⟩ = some (.int .i64 x.v.kind) := by rw [← Hwq.out]; exact HCX.out 1 (by omega)
            have x2 : wq.cell? ⟨g, ok + 2, none⟩ = some (.bool x.v.truth) := by rw [← Hwq.out]; exact HCX.out 2 (by omega)
            have x3 : wq.cell? ⟨g, ok + 3, none⟩ = some (.int .i64 x.v.num) := by rw [← Hwq.out]; exact HCX.out 3 (by omega)
            have x4 : wq.cell? ⟨g, ok + 4, none⟩ = some (.string x.v.text) := by rw [← Hwq.out]; exact HCX.out 4 (by omega)
            have x5 : wq.cell? ⟨g, ok + 5, none⟩ = some (.string x.v.extra) := by rw [← Hwq.out]; exact HCX.out 5 (by omega)
            have x6 : wq.cell? ⟨g, ok + 6, none⟩ = some (.slice BX lx cX) := by rw [← Hwq.out]; exact HCX.out 6 (by omega)
            rw [Hwq.out]
            clear c1 c2
            go_upto_region 7 with fail
            obtain ⟨zn, Hzn⟩ := name_itV wq.heap.size
            obtain ⟨w5, HW5⟩ := name_itV (wq.alloc (.cells #[.string x.key, .int .i64 x.v.kind, .bool x.v.truth, .int .i64 x.v.num, .string x.v.text, .string x.v.extra, .slice BX lx cX] 57))
            have HT5 := Lib.hid (show Turn (fun _ => False) wr w5 from by rw [← HW5.out]; exact HTQ.out.alloc _)
            have HK5 := Lib.hid (show w5.heap[zn]? = some (.cells #[.string x.key, .int .i64 x.v.kind, .bool x.v.truth, .int .i64 x.v.num, .string x.v.text, .string x.v.extra, .slice BX lx cX] 57 (0, 0)) from by rw [← HW5.out, ← Hzn.out]; exact heap_alloc_new wq _)
            have hgz := Lib.hid (show g < zn from by have := HTQ.out.size; have := HFG.out; have := Hzn.out; omega)
            have HFRN := Lib.hid (fun (o : Nat) => (show w5.frozen? ⟨g, o, none⟩ = false from frozen_keep HT5.out HFG.out (fun h => h) (HFR.out o)))
            have y0 : w5.cell? ⟨g, oj, none⟩ = some (.string y.key) := (HT5.out.cell (p := ⟨g, oj, none⟩) HFG.out (fun h => h)).trans (HCY.out 0 (by omega))
            have y1 : w5.cell? ⟨g, oj + 1, none⟩ = some (.int .i64 y.v.kind) := (HT5.out.cell (p := ⟨g, oj + 1, none⟩) HFG.out (fun h => h)).trans (HCY.out 1 (by omega))
            have y2 : w5.cell? ⟨g, oj + 2, none⟩ = some (.bool y.v.truth) := (HT5.out.cell (p := ⟨g, oj + 2, none⟩) HFG.out (fun h => h)).trans (HCY.out 2 (by omega))
            have y3 : w5.cell? ⟨g, oj + 3, none⟩ = some (.int .i64 y.v.num) := (HT5.out.cell (p := ⟨g, oj + 3, none⟩) HFG.out (fun h => h)).trans (HCY.out 3 (by omega))
            have y4 : w5.cell? ⟨g, oj + 4, none⟩ = some (.string y.v.text) := (HT5.out.cell (p := ⟨g, oj + 4, none⟩) HFG.out (fun h => h)).trans (HCY.out 4 (by omega))
            have y5 : w5.cell? ⟨g, oj + 5, none⟩ = some (.string y.v.extra) := (HT5.out.cell (p := ⟨g, oj + 5, none⟩) HFG.out (fun h => h)).trans (HCY.out 5 (by omega))
            have y6 : w5.cell? ⟨g, oj + 6, none⟩ = some (.slice BY ly cY) := (HT5.out.cell (p := ⟨g, oj + 6, none⟩) HFG.out (fun h => h)).trans (HCY.out 6 (by omega))
            have u0 : w5.cell? ⟨g, ok, none⟩ = some (.string x.key) := (HT5.out.cell (p := ⟨g, ok, none⟩) HFG.out (fun h => h)).trans (HCX.out 0 (by omega))
            have u1 : w5.cell? ⟨g, ok + 1, none⟩ = some (.int .i64 x.v.kind) := (HT5.out.cell (p := ⟨g, ok + 1, none⟩) HFG.out (fun h => h)).trans (HCX.out 1 (by omega))
            have u2 : w5.cell? ⟨g, ok + 2, none⟩ = some (.bool x.v.truth) := (HT5.out.cell (p := ⟨g, ok + 2, none⟩) HFG.out (fun h => h)).trans (HCX.out 2 (by omega))
            have u3 : w5.cell? ⟨g, ok + 3, none⟩ = some (.int .i64 x.v.num) := (HT5.out.cell (p := ⟨g, ok + 3, none⟩) HFG.out (fun h => h)).trans (HCX.out 3 (by omega))
            have u4 : w5.cell? ⟨g, ok + 4, none⟩ = some (.string x.v.text) := (HT5.out.cell (p := ⟨g, ok + 4, none⟩) HFG.out (fun h => h)).trans (HCX.out 4 (by omega))
            have u5 : w5.cell? ⟨g, ok + 5, none⟩ = some (.string x.v.extra) := (HT5.out.cell (p := ⟨g, ok + 5, none⟩) HFG.out (fun h => h)).trans (HCX.out 5 (by omega))
            have u6 : w5.cell? ⟨g, ok + 6, none⟩ = some (.slice BX lx cX) := (HT5.out.cell (p := ⟨g, ok + 6, none⟩) HFG.out (fun h => h)).trans (HCX.out 6 (by omega))
            have f0 := HFRN.out (ok)
            have f1 := HFRN.out (ok + 1)
            have f2 := HFRN.out (ok + 2)
            have f3 := HFRN.out (ok + 3)
            have f4 := HFRN.out (ok + 4)
            have f5 := HFRN.out (ok + 5)
            have f6 := HFRN.out (ok + 6)
            rw [Hzn.out, HW5.out]
            clear x0 x1 x2 x3 x4 x5 x6
            go_upto_region 8 with fail
            obtain ⟨w6, HW6⟩ := name_itV (((((((w5.setCell ⟨g, ok, none⟩ (.string y.key)).setCell ⟨g, ok + 1, none⟩ (.int .i64 y.v.kind)).setCell ⟨g, ok + 2, none⟩ (.bool y.v.truth)).setCell ⟨g, ok + 3, none⟩ (.int .i64 y.v.num)).setCell ⟨g, ok + 4, none⟩ (.string y.v.text)).setCell ⟨g, ok + 5, none⟩ (.string y.v.extra)).setCell ⟨g, ok + 6, none⟩ (.slice BY ly cY))
            have HT6 := Lib.hid (show Turn (fun b => b = g) w5 w6 from by rw [← HW6.out]; exact turn_setW (w := w5) (g := g) (o := ok) [.string y.key, .int .i64 y.v.kind, .bool y.v.truth, .int .i64 y.v.num, .string y.v.text, .string y.v.extra, .slice BY ly cY])
            have HSE := Lib.hid (show w6 = setW w5 g ok [.string y.key, .int .i64 y.v.kind, .bool y.v.truth, .int .i64 y.v.num, .string y.v.text, .string y.v.extra, .slice BY ly cY] from HW6.out.symm)
            have HK6 := Lib.hid ((HT6.out.block zn (blk_lt HK5.out) (fun h => by have := hgz.out; omega)).trans HK5.out)
            have HFRM := Lib.hid (fun (o : Nat) => (show w6.frozen? ⟨g, o, none⟩ = false from frozen_setW HSE.out (HFRN.out o)))
            have HYC := Lib.hid (fun (m : Nat) (hm : oj + 7 ≤ ok) (hm2 : m < 7) => (show w6.cell? ⟨g, oj + m, none⟩ = w5.cell? ⟨g, oj + m, none⟩ from cell_setW HSE.out (by simp only [List.length_cons, List.length_nil]; omega)))
            rw [HW6.out]
            clear y0 y1 y2 y3 y4 y5 y6 u0 u1 u2 u3 u4 u5 u6 f0 f1 f2 f3 f4 f5 f6
            have b0 : w6.cell? ⟨zn, 0, none⟩ = some (.string x.key) := Lib.cell_of_heap HK6.out 0
            have b1 : w6.cell? ⟨zn, 1, none⟩ = some (.int .i64 x.v.kind) := Lib.cell_of_heap HK6.out 1
            have b2 : w6.cell? ⟨zn, 2, none⟩ = some (.bool x.v.truth) := Lib.cell_of_heap HK6.out 2
            have b3 : w6.cell? ⟨zn, 3, none⟩ = some (.int .i64 x.v.num) := Lib.cell_of_heap HK6.out 3
            have b4 : w6.cell? ⟨zn, 4, none⟩ = some (.string x.v.text) := Lib.cell_of_heap HK6.out 4
            have b5 : w6.cell? ⟨zn, 5, none⟩ = some (.string x.v.extra) := Lib.cell_of_heap HK6.out 5
            have b6 : w6.cell? ⟨zn, 6, none⟩ = some (.slice BX lx cX) := Lib.cell_of_heap HK6.out 6
            have v0 : w6.cell? ⟨g, oj, none⟩ = some (.string y.key) := (HYC.out 0 (by have h1 := HOK.out; have h2 := HOJ.out; omega) (by omega)).trans ((HT5.out.cell (p := ⟨g, oj, none⟩) HFG.out (fun h => h)).trans (HCY.out 0 (by omega)))
            have v1 : w6.cell? ⟨g, oj + 1, none⟩ = some (.int .i64 y.v.kind) := (HYC.out 1 (by have h1 := HOK.out; have h2 := HOJ.out; omega) (by omega)).trans ((HT5.out.cell (p := ⟨g, oj + 1, none⟩) HFG.out (fun h => h)).trans (HCY.out 1 (by omega)))
            have v2 : w6.cell? ⟨g, oj + 2, none⟩ = some (.bool y.v.truth) := (HYC.out 2 (by have h1 := HOK.out; have h2 := HOJ.out; omega) (by omega)).trans ((HT5.out.cell (p := ⟨g, oj + 2, none⟩) HFG.out (fun h => h)).trans (HCY.out 2 (by omega)))
            have v3 : w6.cell? ⟨g, oj + 3, none⟩ = some (.int .i64 y.v.num) := (HYC.out 3 (by have h1 := HOK.out; have h2 := HOJ.out; omega) (by omega)).trans ((HT5.out.cell (p := ⟨g, oj + 3, none⟩) HFG.out (fun h => h)).trans (HCY.out 3 (by omega)))
            have v4 : w6.cell? ⟨g, oj + 4, none⟩ = some (.string y.v.text) := (HYC.out 4 (by have h1 := HOK.out; have h2 := HOJ.out; omega) (by omega)).trans ((HT5.out.cell (p := ⟨g, oj + 4, none⟩) HFG.out (fun h => h)).trans (HCY.out 4 (by omega)))
            have v5 : w6.cell? ⟨g, oj + 5, none⟩ = some (.string y.v.extra) := (HYC.out 5 (by have h1 := HOK.out; have h2 := HOJ.out; omega) (by omega)).trans ((HT5.out.cell (p := ⟨g, oj + 5, none⟩) HFG.out (fun h => h)).trans (HCY.out 5 (by omega)))
            have v6 : w6.cell? ⟨g, oj + 6, none⟩ = some (.slice BY ly cY) := (HYC.out 6 (by have h1 := HOK.out; have h2 := HOJ.out; omega) (by omega)).trans ((HT5.out.cell (p := ⟨g, oj + 6, none⟩) HFG.out (fun h => h)).trans (HCY.out 6 (by omega)))
            have f0 := HFRM.out (oj)
            have f1 := HFRM.out (oj + 1)
            have f2 := HFRM.out (oj + 2)
            have f3 := HFRM.out (oj + 3)
            have f4 := HFRM.out (oj + 4)
            have f5 := HFRM.out (oj + 5)
            have f6 := HFRM.out (oj + 6)
            go_wp2_with fail
            go_roundw
            case measure => simp [intOf]; omega
            case rel =>
              have ht := (hM.out.2.2.trans (HT5.out.mono (S' := fun b => (Value.slice (some ⟨g, 0, none⟩) n cp).ownBlock = some b) (fun _ _ h => h.elim))).trans (HT6.out.mono (S' := fun b => (Value.slice (some ⟨g, 0, none⟩) n cp).ownBlock = some b) (fun b _ h => by rw [h]; rfl))
              have hown := HSWP.out w5 HT5.out
              rw [HW6.out] at hown
              refine ⟨j, swapA c k x y, by omega, rfl, Lib.hid ⟨?_, hown, ht.trans ((turn_setW (w := w6) (g := g) (o := oj) [.string x.key, .int .i64 x.v.kind, .bool x.v.truth, .int .i64 x.v.num, .string x.v.text, .string x.v.extra, .slice BX lx cX]).mono (S' := fun b => (Value.slice (some ⟨g, 0, none⟩) n cp).ownBlock = some b) (fun b _ h => by rw [h]; rfl))⟩⟩
              rw [HJ.out]
              exact hM.out.1.step hk0 hki HX.out HY.out HLE.out
        · have hk : k = 0 := by omega
          have HK := Lib.hid hk
          have g2 : decide ((0 : Int) < (k : Int)) = false := decide_eq_false (by omega)
          have g3 : ¬ ((0 : Int) < (k : Int)) := by omega
          clear hk
          go_upto_region 4 with fail
          go_quiet (fail)
          go_wp2_with fail
          go_roundw
          case measure => simp [intOf]; omega
          case rel =>
            refine ⟨i + 1, c, by omega, by omega, by go_num, Lib.hid ⟨?_, hM.out.2.1.turn PaR.good (turn_drewN (Turn.refl (fun _ => False) wr) nq) (fun b hb => Nat.lt_of_lt_of_le (HF.out b hb) hM.out.2.2.size) (fun _ _ h => h), turn_drewN hM.out.2.2 nq⟩⟩
            have h1 := hM.out.1
            rw [HK.out] at h1
            exact h1.low
    · have HD := Lib.hid (show n ≤ i from by omega)
      go_wp2_with fail
      go_end0
      have hd := hM.out.1.done (by rw [Hn.out]; exact HD.out)
      exact ⟨rfl, c, hd, hM.out.2.1, hM.out.2.2⟩
end Go.Proofs.YtmhjbicbdahllaaGreatDoor

namespace Go.Proofs.YtmhjbicbdahllaaGreatDoor
open Go Go.RowKit

theorem split_perm {α : Type} {l : List α} {i : Nat} {x : α} (h : l[i]? = some x) : l.Perm (x :: (l.take i ++ l.drop (i + 1))) := by
  have e : l = l.take i ++ x :: l.drop (i + 1) := by
    have := List.take_append_drop i l
    rw [drop_here h] at this
    exact this.symm
  have hp : (l.take i ++ x :: l.drop (i + 1)).Perm (x :: (l.take i ++ l.drop (i + 1))) := List.perm_middle
  rw [← e] at hp
  exact hp
theorem set_split {α : Type} {l : List α} {i : Nat} {y : α} (h : i < l.length) : (l.set i y).Perm (y :: (l.take i ++ l.drop (i + 1))) := by
  have h1 := split_perm (l := l.set i y) (i := i) (x := y) (by rw [List.getElem?_set_self h])
  have e1 : (l.set i y).take i = l.take i := by rw [List.take_set, List.set_eq_of_length_le (by simp; omega)]
  have e2 : (l.set i y).drop (i + 1) = l.drop (i + 1) := by
    rw [List.drop_set]
    simp
  rw [e1, e2] at h1
  exact h1
theorem set_perm {α : Type} {l c : List α} {i : Nat} {x y : α} (hp : c.Perm l) (hc : c[i]? = some x) (hl : l[i]? = some x) : (c.set i y).Perm (l.set i y) := by
  have h1 := (split_perm hc).symm.trans (hp.trans (split_perm hl))
  have h2 := List.perm_cons x |>.1 h1
  exact (set_split (idx_lt hc)).trans ((h2.cons y).trans (set_split (idx_lt hl)).symm)
theorem SrtM.set {α : Type} {le : α → α → Prop} {l c : List α} {i : Nat} {x : α} (h : SrtM le l i c) (hx : l[i]? = some x) (y : α) : SrtM le (l.set i y) i (c.set i y) := by
  have hc : c[i]? = some x := (h.rest i (Nat.le_refl _)).trans hx
  refine ⟨set_perm h.perm hc hx, fun j hj => ?_, fun p q a b h1 h2 ha hb => ?_⟩
  · by_cases e : i = j
    · subst e
      rw [List.getElem?_set_self (idx_lt hc), List.getElem?_set_self (idx_lt hx)]
    · rw [List.getElem?_set_ne e, List.getElem?_set_ne e]
      exact h.rest j hj
  · rw [List.getElem?_set_ne (by omega)] at ha hb
    exact h.srt p q a b h1 h2 ha hb

/-- The first i elements, done, are c's; the others are l's yet. -/
structure HalfC {α : Type} (E sz : Nat) (R1 R2 : Lies α) (w : World) (lo hi : Nat) (l c : List α) (i : Nat) (A : Option Addr) (n cp : Nat) (cs : Nat → Array Value) (a : Nat → Nat) : Prop where
  row : w.ownsRow 0 E sz (.slice A n cp) n (flatC cs n)
  len : c.length = n
  len2 : l.length = n
  sz : ∀ i, i < n → (cs i).size = sz
  own : ∀ g, (Value.slice A n cp).ownBlock = some g → lo ≤ g ∧ g < hi
  up : ∀ i j, i ≤ j → a i ≤ a j
  lo_ : lo ≤ a 0
  hi_ : a n ≤ hi
  top : hi ≤ w.heap.size
  le : i ≤ n
  pre : ∀ p x, p < i → c[p]? = some x → R1 w (fun b => a 0 ≤ b ∧ b < a i ∧ (Value.slice A n cp).ownBlock ≠ some b) x (cs p)
  post : ∀ p x, i ≤ p → l[p]? = some x → R2 w (fun b => a p ≤ b ∧ b < a (p + 1) ∧ (Value.slice A n cp).ownBlock ≠ some b) x (cs p)
section
variable {α : Type} {E sz : Nat} {R1 R2 : Lies α} {w w' : World} {lo hi : Nat} {l c : List α} {i : Nat} {A : Option Addr} {n cp : Nat} {cs : Nat → Array Value} {a : Nat → Nat}
theorem IntS.half (h : IntS E sz R2 w lo hi l A n cp cs a) : HalfC E sz R1 R2 w lo hi l l 0 A n cp cs a :=
  ⟨h.row, h.len, h.len, h.sz, h.own, h.up, h.lo_, h.hi_, h.top, Nat.zero_le _, fun _ _ h => absurd h (Nat.not_lt_zero _), fun p x _ hx => h.el p x hx⟩
theorem HalfC.turn {S : Nat → Prop} (hR1 : R1.GoodT) (hR2 : R2.GoodT) (h : HalfC E sz R1 R2 w lo hi l c i A n cp cs a) (ht : Turn S w w') (hS : ∀ b, lo ≤ b → b < hi → ¬ S b) : HalfC E sz R1 R2 w' lo hi l c i A n cp cs a := by
  have hin := h.up i n h.le
  have h0 := h.lo_
  have hhi := h.hi_
  have htop := h.top
  refine ⟨ht.owns h.row (fun g hg => hS g (h.own g hg).1 (h.own g hg).2), h.len, h.len2, h.sz, h.own, h.up, h.lo_, h.hi_, Nat.le_trans h.top ht.size, h.le, fun p x hp hx => hR1.turn (h.pre p x hp hx) ht (fun b hb => by omega) (fun b hb => hS b (by omega) (by omega)), fun p x hp hx => ?_⟩
  have hpl := idx_lt hx
  have h1 := h.up (p + 1) n (by have := h.len2; omega)
  have h2 := h.up 0 p (by omega)
  exact hR2.turn (h.post p x hp hx) ht (fun b hb => by omega) (fun b hb => hS b (by omega) (by omega))
/-- One more is done. -/
theorem HalfC.next {S : Nat → Prop} {y : α} (hR1 : R1.GoodT) (hR2 : R2.GoodT) (h : HalfC E sz R1 R2 w lo hi l c i A n cp cs a) (hi' : i < n) (ht : Turn S w w') (hS : ∀ b, S b → a i ≤ b ∧ b < a (i + 1) ∧ (Value.slice A n cp).ownBlock ≠ some b)
    (hy : R1 w' (fun b => a i ≤ b ∧ b < a (i + 1) ∧ (Value.slice A n cp).ownBlock ≠ some b) y (cs i)) : HalfC E sz R1 R2 w' lo hi l (c.set i y) (i + 1) A n cp cs a := by
  have hin := h.up (i + 1) n hi'
  have hii := h.up i (i + 1) (by omega)
  have h0i := h.up 0 i (by omega)
  have h0 := h.lo_
  have hhi := h.hi_
  have htop := h.top
  refine ⟨ht.owns h.row (fun g hg hs => (hS g hs).2.2 hg), by rw [List.length_set]; exact h.len, h.len2, h.sz, h.own, h.up, h.lo_, h.hi_, Nat.le_trans h.top ht.size, hi', fun p x hp hx => ?_, fun p x hp hx => ?_⟩
  · by_cases e : i = p
    · subst e
      rw [List.getElem?_set_self (by rw [h.len]; exact hi')] at hx
      injection hx with hx
      subst hx
      exact hR1.mono hy (fun b hb => ⟨by omega, hb.2⟩)
    · rw [List.getElem?_set_ne e] at hx
      exact hR1.mono (hR1.turn (h.pre p x (by omega) hx) ht (fun b hb => by omega) (fun b hb hs => by have := hS b hs; omega)) (fun b hb => ⟨hb.1, by omega, hb.2.2⟩)
  · have hpl := idx_lt hx
    have h1 := h.up (p + 1) n (by have := h.len2; omega)
    have h2 := h.up (i + 1) p (by omega)
    exact hR2.turn (h.post p x (by omega) hx) ht (fun b hb => by omega) (fun b hb hs => by have := hS b hs; omega)
/-- Two neighbours, done, are turned. -/
theorem HalfC.two {k : Nat} {x y : α} (hR1 : R1.GoodT) (hR2 : R2.GoodT) (h : HalfC E sz R1 R2 w lo hi l c i A n cp cs a) (h0 : 0 < k) (hki : k < i) (hx : c[k]? = some x) (hy : c[k - 1]? = some y) :
    ∃ g, A = some ⟨g, 0, none⟩ ∧ lo ≤ g ∧ g < hi ∧ (cs k).size = sz ∧ (cs (k - 1)).size = sz ∧ (∀ j, j < sz → w.cell? ⟨g, k * sz + j, none⟩ = (cs k)[j]?) ∧ (∀ j, j < sz → w.cell? ⟨g, (k - 1) * sz + j, none⟩ = (cs (k - 1))[j]?) ∧ (∀ j, w.frozen? ⟨g, j, none⟩ = false) ∧
      R1 w (fun b => a 0 ≤ b ∧ b < a i ∧ (Value.slice A n cp).ownBlock ≠ some b) x (cs k) ∧ R1 w (fun b => a 0 ≤ b ∧ b < a i ∧ (Value.slice A n cp).ownBlock ≠ some b) y (cs (k - 1)) ∧
      ∀ (S : Nat → Prop) (w1 : World), Turn S w w1 → (∀ b, lo ≤ b → b < hi → ¬ S b) → HalfC E sz R1 R2 (setW (setW w1 g (k * sz) (cs (k - 1)).toList) g ((k - 1) * sz) (cs k).toList) lo hi l (swapA c k x y) i A n cp (swapF cs k) a := by
  have hin := h.le
  obtain ⟨g, cp2, hv, _, _⟩ := h.row.form (by omega)
  injection hv with hA _ hcp
  subst hA
  have hg := h.own g rfl
  have hcell : ∀ p j, p < n → j < sz → w.cell? ⟨g, p * sz + j, none⟩ = (cs p)[j]? := fun p j hi hj => by
    have h1 : (p + 1) * sz ≤ n * sz := Nat.mul_le_mul_right sz (by omega)
    rw [Nat.succ_mul] at h1
    have h2 := h.row.cellAt (p * sz + j) (by omega)
    rw [flatC_at h.sz hi hj] at h2
    exact h2
  refine ⟨g, rfl, hg.1, hg.2, h.sz k (by omega), h.sz (k - 1) (by omega), fun j hj => hcell k j (by omega) hj, fun j hj => hcell (k - 1) j (by omega) hj, fun j => frozen_row h.row rfl j, h.pre k x hki hx, h.pre (k - 1) y (by omega) hy, fun S w1 ht hS => ?_⟩
  have h1 := h.turn hR1 hR2 ht hS
  have h2 := own_swap h1.row h1.sz (show k < n by omega) h0
  have hT := (turn_setW (g := g) (cs (k - 1)).toList (w := w1) (o := k * sz)).trans (turn_setW (g := g) (cs k).toList (w := setW w1 g (k * sz) (cs (k - 1)).toList) (o := (k - 1) * sz))
  have hia := h1.up i n h.le
  have hl0 := h1.lo_
  have hhi := h1.hi_
  have htop := h1.top
  refine ⟨h2, by rw [swapA_length]; exact h.len, h.len2, swap_size h1.sz (by omega) h0, h.own, h.up, h.lo_, h.hi_, Nat.le_trans h1.top hT.size, h.le, fun p z hp hz => ?_, fun p z hp hz => ?_⟩
  · have hall : ∀ {q : Nat} {z : α}, q < i → c[q]? = some z → R1 (setW (setW w1 g (k * sz) (cs (k - 1)).toList) g ((k - 1) * sz) (cs k).toList) (fun b => a 0 ≤ b ∧ b < a i ∧ (Value.slice (some ⟨g, 0, none⟩) n cp).ownBlock ≠ some b) z (cs q) := fun hq hz =>
      hR1.turn (h1.pre _ _ hq hz) hT (fun b hb => by omega) (fun b hb e => hb.2.2 (by rw [e]; rfl))
    rw [swapA_at hx hy h0] at hz
    unfold swapF
    by_cases e : p = k
    · rw [if_pos e] at hz ⊢
      exact hall (by omega) hz
    · rw [if_neg e] at hz ⊢
      by_cases e2 : p = k - 1
      · rw [if_pos e2] at hz ⊢
        exact hall hki hz
      · rw [if_neg e2] at hz ⊢
        exact hall hp hz
  · have hpl := idx_lt hz
    have h3 := h1.up (p + 1) n (by have := h1.len2; omega)
    unfold swapF
    rw [if_neg (by omega), if_neg (by omega)]
    exact hR2.turn (h1.post p z hp hz) hT (fun b hb => by omega) (fun b hb e => hb.2.2 (by rw [e]; rfl))
/-- All are done. -/
theorem HalfC.sown (hR1 : R1.GoodT) (h : HalfC E sz R1 R2 w lo hi l c n A n cp cs a) : SOwn E sz R1 w (fun b => lo ≤ b ∧ b < hi) c (.slice A n cp) := by
  have h0 := h.lo_
  have hhi := h.hi_
  refine ⟨cs, by rw [h.len]; exact h.row, by rw [h.len]; exact h.sz, h.own, fun p x hx => ?_⟩
  exact hR1.mono (h.pre p x (by have := idx_lt hx; have := h.len; omega) hx) (fun b hb => ⟨⟨by omega, by omega⟩, hb.2.2⟩)
end
abbrev leND (a b : NodeD) : Prop := ¬ ordI b.id a.id < 0
abbrev leED (a b : EdgeD) : Prop := ¬ ordI b.id a.id < 0
theorem leI_tr {a b d : Int} (h1 : ¬ ordI b a < 0) (h2 : ¬ ordI d b < 0) : ¬ ordI d a < 0 := by
  rw [ordI_lt] at *
  omega
theorem leI_of {a b : Int} (h : a ≤ b) : ¬ ordI b a < 0 := by
  rw [ordI_lt]
  omega
end Go.Proofs.YtmhjbicbdahllaaGreatDoor

namespace Go.Proofs.YtmhjbicbdahllaaGreatDoor
open Go Go.RowKit

theorem HalfC.at_ {α : Type} {E sz : Nat} {R1 R2 : Lies α} {w : World} {lo hi : Nat} {l c : List α} {i : Nat} {A : Option Addr} {n cp : Nat} {cs : Nat → Array Value} {a : Nat → Nat} (h : HalfC E sz R1 R2 w lo hi l c i A n cp cs a) {p : Nat} (hp : p < n) :
    ∃ g, A = some ⟨g, 0, none⟩ ∧ lo ≤ g ∧ g < hi ∧ (∀ j, j < sz → w.cell? ⟨g, p * sz + j, none⟩ = (cs p)[j]?) := by
  obtain ⟨g, cp2, hv, _, _⟩ := h.row.form (by omega)
  injection hv with hA _ hcp
  subst hA
  have hg := h.own g rfl
  refine ⟨g, rfl, hg.1, hg.2, fun j hj => ?_⟩
  have h1 : (p + 1) * sz ≤ n * sz := Nat.mul_le_mul_right sz (by omega)
  rw [Nat.succ_mul] at h1
  have h2 := h.row.cellAt (p * sz + j) (by omega)
  rw [flatC_at h.sz hp hj] at h2
  exact h2
theorem setCell_drew (w : World) (p : Addr) (v : Value) : w.drew.setCell p v = (w.setCell p v).drew := rfl
/-- What is held while the nodes are sorted. -/
structure Pn (w : World) (zr z3 lo z2 : Nat) (G : GraphD) (AN : Option Addr) (nN cN : Nat) (AE : Option Addr) (nE cE : Nat) (csE : Nat → Array Value) (aE aN : Nat → Nat) (i : Nat) (c : List NodeD) (cs : Nat → Array Value) (wx : World) : Prop where
  below : Below w.heap.size w wx
  res : wx.heap[zr]? = some (.cells #[.slice none 0 0, .slice none 0 0] 25 (0, 0))
  box : wx.heap[z3]? = some (.cells #[.slice AN nN cN, .slice AE nE cE] 25 (0, 0))
  half : HalfC 38 3 NoR NoO wx lo z2 G.nodes c i AN nN cN cs aN
  edges : IntS 41 5 EdO wx z2 z3 G.edges AE nE cE csE aE
  loc : w.heap.size ≤ zr ∧ zr < lo ∧ lo ≤ z2 ∧ z2 ≤ z3 ∧ z3 < wx.heap.size
theorem Pn.mv {w : World} {zr z3 lo z2 : Nat} {G : GraphD} {AN : Option Addr} {nN cN : Nat} {AE : Option Addr} {nE cE : Nat} {csE : Nat → Array Value} {aE aN : Nat → Nat} {i i' : Nat} {c c' : List NodeD} {cs cs' : Nat → Array Value} {wx wy : World} {S : Nat → Prop}
    (h : Pn w zr z3 lo z2 G AN nN cN AE nE cE csE aE aN i c cs wx) (ht : Turn S wx wy) (hS : ∀ b, S b → lo ≤ b ∧ b < z2) (hn : HalfC 38 3 NoR NoO wy lo z2 G.nodes c' i' AN nN cN cs' aN) : Pn w zr z3 lo z2 G AN nN cN AE nE cE csE aE aN i' c' cs' wy := by
  obtain ⟨l1, l2, l3, l4, l5⟩ := h.loc
  refine ⟨h.below.trans (ht.below (fun b _ hb => by have := hS b hb; omega) h.below.size), (ht.block zr (by omega) (fun hb => by have := hS _ hb; omega)).trans h.res, (ht.block z3 l5 (fun hb => by have := hS _ hb; omega)).trans h.box, hn, h.edges.turn EdO.good ht (fun b h1 _ hb => by have := hS b hb; omega), l1, l2, l3, l4, Nat.lt_of_lt_of_le l5 ht.size⟩
theorem Pn.still {w : World} {zr z3 lo z2 : Nat} {G : GraphD} {AN : Option Addr} {nN cN : Nat} {AE : Option Addr} {nE cE : Nat} {csE : Nat → Array Value} {aE aN : Nat → Nat} {i : Nat} {c : List NodeD} {cs : Nat → Array Value} {wx wy : World}
    (h : Pn w zr z3 lo z2 G AN nN cN AE nE cE csE aE aN i c cs wx) (ht : Turn (fun _ => False) wx wy) : Pn w zr z3 lo z2 G AN nN cN AE nE cE csE aE aN i c cs wy :=
  h.mv ht (fun _ h => h.elim) (h.half.turn NoR.good.t NoO.good ht (fun _ _ _ h => h))
/-- .. while the edges are. -/
structure Pe (w : World) (zr z3 lo z2 : Nat) (G : GraphD) (ns : List NodeD) (AN : Option Addr) (nN cN : Nat) (AE : Option Addr) (nE cE : Nat) (aE : Nat → Nat) (i : Nat) (c : List EdgeD) (cs : Nat → Array Value) (wx : World) : Prop where
  below : Below w.heap.size w wx
  res : wx.heap[zr]? = some (.cells #[.slice none 0 0, .slice none 0 0] 25 (0, 0))
  box : wx.heap[z3]? = some (.cells #[.slice AN nN cN, .slice AE nE cE] 25 (0, 0))
  nodes : SOwn 38 3 NoR wx (fun b => lo ≤ b ∧ b < z2) ns (.slice AN nN cN)
  half : HalfC 41 5 EdR EdO wx z2 z3 G.edges c i AE nE cE cs aE
  loc : w.heap.size ≤ zr ∧ zr < lo ∧ lo ≤ z2 ∧ z2 ≤ z3 ∧ z3 < wx.heap.size
theorem Pe.mv {w : World} {zr z3 lo z2 : Nat} {G : GraphD} {ns : List NodeD} {AN : Option Addr} {nN cN : Nat} {AE : Option Addr} {nE cE : Nat} {aE : Nat → Nat} {i i' : Nat} {c c' : List EdgeD} {cs cs' : Nat → Array Value} {wx wy : World} {S : Nat → Prop}
    (h : Pe w zr z3 lo z2 G ns AN nN cN AE nE cE aE i c cs wx) (ht : Turn S wx wy) (hS : ∀ b, S b → z2 ≤ b ∧ b < z3) (hn : HalfC 41 5 EdR EdO wy z2 z3 G.edges c' i' AE nE cE cs' aE) : Pe w zr z3 lo z2 G ns AN nN cN AE nE cE aE i' c' cs' wy := by
  obtain ⟨l1, l2, l3, l4, l5⟩ := h.loc
  refine ⟨h.below.trans (ht.below (fun b _ hb => by have := hS b hb; omega) h.below.size), (ht.block zr (by omega) (fun hb => by have := hS _ hb; omega)).trans h.res, (ht.block z3 l5 (fun hb => by have := hS _ hb; omega)).trans h.box, h.nodes.turn NoR.good ht (fun b hb => by omega) (fun b h1 hb => by have := hS b hb; omega), hn, l1, l2, l3, l4, Nat.lt_of_lt_of_le l5 ht.size⟩
theorem Pe.still {w : World} {zr z3 lo z2 : Nat} {G : GraphD} {ns : List NodeD} {AN : Option Addr} {nN cN : Nat} {AE : Option Addr} {nE cE : Nat} {aE : Nat → Nat} {i : Nat} {c : List EdgeD} {cs : Nat → Array Value} {wx wy : World}
    (h : Pe w zr z3 lo z2 G ns AN nN cN AE nE cE aE i c cs wx) (ht : Turn (fun _ => False) wx wy) : Pe w zr z3 lo z2 G ns AN nN cN AE nE cE aE i c cs wy :=
  h.mv ht (fun _ h => h.elim) (h.half.turn EdR.good.t EdO.good ht (fun _ _ _ h => h))
/-- The sorted elements, so far. -/
def DoneM {α : Type} (R : α → α → Prop) (l ms : List α) (i : Nat) : Prop := ms.length = l.length ∧ (∀ p x y, p < i → l[p]? = some x → ms[p]? = some y → R x y) ∧ ∀ p, i ≤ p → ms[p]? = l[p]?
theorem DoneM.zero {α : Type} {R : α → α → Prop} {l : List α} : DoneM R l l 0 := ⟨rfl, fun _ _ _ h => absurd h (Nat.not_lt_zero _), fun _ _ => rfl⟩
theorem DoneM.next {α : Type} {R : α → α → Prop} {l ms : List α} {i : Nat} {x y : α} (h : DoneM R l ms i) (hx : l[i]? = some x) (hy : R x y) : DoneM R l (ms.set i y) (i + 1) := by
  have hi := idx_lt hx
  refine ⟨by rw [List.length_set]; exact h.1, fun p a b hp ha hb => ?_, fun p hp => ?_⟩
  · by_cases e : i = p
    · subst e
      rw [List.getElem?_set_self (by rw [h.1]; exact hi)] at hb
      injection hb with hb
      subst hb
      rw [hx] at ha
      injection ha with ha
      subst ha
      exact hy
    · rw [List.getElem?_set_ne e] at hb
      exact h.2.1 p a b (by omega) ha hb
  · rw [List.getElem?_set_ne (by omega)]
    exact h.2.2 p (by omega)
theorem DoneM.all {α : Type} {R : α → α → Prop} {l ms : List α} {i : Nat} (h : DoneM R l ms i) (hi : l.length ≤ i) : All2 R l ms :=
  ⟨h.1.symm, fun p x y hx hy => h.2.1 p x y (by have := idx_lt hx; omega) hx hy⟩
/-- The document's Plain: the graph, sorted, in memory of its own. -/
def RPlainIs (G : GraphD) (w : World) (e : Ending) (w' : World) : Prop :=
  ∃ u g', e = .returned u ∧ Below w.heap.size w w' ∧ GrR w' (fun b => w.heap.size ≤ b ∧ b < w'.heap.size) g' u ∧ SrtG G g'
set_option maxRecDepth 100000 in
set_option maxHeartbeats 16000000 in
theorem refPlain_any (G : GraphD) (hfit : FitG G) (F : Nat → Prop) (u : Value) (w : World) (hF : ∀ b, F b → b < w.heap.size) (hg : GrR w F G u) :
    Calls Tryz.prog 14 #[u] w (RPlainIs G w) := by
  have HFIT := Lib.hid hfit
  have hg0 := hg
  obtain ⟨uN, uE, rfl, ⟨A0, c0, hNe, _, _⟩, B0, d0, hEe, _, _⟩ := hg0
  subst hNe hEe
  obtain ⟨nN, HnN⟩ := name_itV G.nodes.length
  obtain ⟨nE, HnE⟩ := name_itV G.edges.length
  rw [HnN.out, HnE.out] at hg ⊢
  have hgn : nN ≤ 2000000 := by rw [← HnN.out]; exact hfit.1
  have hge : nE ≤ 2000000 := by rw [← HnE.out]; exact hfit.2.1
  obtain ⟨zg, Hzg⟩ := name_itV w.heap.size
  obtain ⟨w1, HW1⟩ := name_itV ((w.alloc (.cells #[.slice A0 nN c0, .slice B0 nE d0] 25)).alloc (.cells #[.slice none 0 0, .slice none 0 0] 25))
  have HB1 := Lib.hid (show Below w.heap.size w w1 from by rw [← HW1.out]; exact two_new w _ _)
  have HS1 := Lib.hid (show w1.heap.size = zg + 2 from by rw [← HW1.out, ← Hzg.out]; simp)
  have HK1 := Lib.hid (show w1.heap[zg]? = some (.cells #[.slice A0 nN c0, .slice B0 nE d0] 25 (0, 0)) from by
    rw [← HW1.out, ← Hzg.out, Below.heap_alloc _ _ _ (by simp)]
    exact heap_alloc_new w _)
  have HR1 := Lib.hid (show w1.heap[zg + 1]? = some (.cells #[.slice none 0 0, .slice none 0 0] 25 (0, 0)) from by
    rw [← HW1.out, ← Hzg.out]
    have := heap_alloc_new (w.alloc (.cells #[.slice A0 nN c0, .slice B0 nE d0] 25)) (.cells #[.slice none 0 0, .slice none 0 0] 25)
    simpa using this)
  have hcg := Lib.hid (copyG_any G hfit F _ w1 (fun b hb => by have := hF b hb; have := HB1.out.size; omega) (hg.under HB1.out hF))
  have x0 : w1.cell? ⟨zg, 0, none⟩ = some (.slice A0 nN c0) := Lib.cell_of_heap HK1.out 0
  have x1 : w1.cell? ⟨zg, 1, none⟩ = some (.slice B0 nE d0) := Lib.cell_of_heap HK1.out 1
  clear hfit hF hg
  go_enter Tryz.func14, Tryz.ntmps14
  go_upto_region 1 with fail
  rw [Hzg.out, HW1.out]
  go_wp2_with fail
  refine hcg.out.mono ?_
  rintro e w2 ⟨N, E, z2, rfl, hb2, hz1, hz2, hN, hE⟩
  obtain ⟨AN, cN, cs0, aN, rfl, hN⟩ := hN
  obtain ⟨AE, cE, csE, aE, rfl, hE⟩ := hE
  rw [HnN.out] at hN ⊢
  rw [HnE.out] at hE ⊢
  rw [HS1.out] at hz1 hN
  obtain ⟨z3, Hz3⟩ := name_itV w2.heap.size
  obtain ⟨lo, Hlo⟩ := name_itV (zg + 2)
  obtain ⟨zr, Hzr⟩ := name_itV (zg + 1)
  obtain ⟨w3, HW3⟩ := name_itV (w2.alloc (.cells #[.slice AN nN cN, .slice AE nE cE] 25))
  have HP0 := Lib.hid (show Pn w zr z3 lo z2 G AN nN cN AE nE cE csE aE aN 0 G.nodes cs0 w3 from by
    have hb3 : Below w2.heap.size w2 w3 := by rw [← HW3.out]; exact (Below.refl _ _).alloc (Nat.le_refl _) _
    have ht3 : Turn (fun _ => False) w2 w3 := (Turn.of_below hb3).mono (fun b h1 h2 => by omega)
    rw [Hlo.out] at hN hz1
    rw [Hz3.out] at hE hz2
    refine ⟨HB1.out.trans ((hb2.mono HB1.out.size).trans (hb3.mono (Nat.le_trans HB1.out.size hb2.size))), ?_, ?_, (hN.turn NoO.good ht3 (fun _ _ _ h => h)).half, hE.turn EdO.good ht3 (fun _ _ _ h => h), ?_⟩
    · rw [← Hzr.out]
      exact (hb3.block _ (by have := hb2.size; have := HS1.out; omega)).trans ((hb2.block _ (by rw [HS1.out]; omega)).trans HR1.out)
    · rw [← HW3.out, ← Hz3.out]; exact heap_alloc_new w2 _
    · have h4 : w3.heap.size = z3 + 1 := by rw [← HW3.out, ← Hz3.out]; simp
      have := Hlo.out
      have := Hzr.out
      have := Hzg.out
      refine ⟨by omega, by omega, by omega, by omega, by omega⟩)
  clear hb2 hN hE x0 x1 hz1 hz2
  go_upto_region 2 with fail
  rw [Hz3.out, HW3.out, Hzr.out]
  go_wp2_with fail
  go_loopw [4] (fun s wx => ∃ (i : Nat) (c ms : List NodeD) (cs : Nat → Array Value), i ≤ nN ∧ s = .int .i64 (i : Nat) ∧ Hid (Pn w zr z3 lo z2 G AN nN cN AE nE cE csE aE aN i c cs wx ∧ SrtM leND ms i c ∧ DoneM SrtN G.nodes ms i)) (fun s _ => nN - (intOf s).toNat)
  case atStart => exact ⟨0, G.nodes, G.nodes, _, by omega, rfl, Lib.hid ⟨HP0.out, SrtM.zero, DoneM.zero⟩⟩
  case round =>
    obtain ⟨i, c, ms, cs, hi, rfl, hM2⟩ := hrel
    have HM := Lib.hid hM2.out.1
    have HSM := Lib.hid hM2.out.2.1
    have HDM := Lib.hid hM2.out.2.2
    clear hM2
    have b0 : wr.cell? ⟨z3, 0, none⟩ = some (.slice AN nN cN) := Lib.cell_of_heap HM.out.box 0
    by_cases hlt : i < nN
    · obtain ⟨x, hx⟩ : ∃ x, G.nodes[i]? = some x := ⟨G.nodes[i]'(by rw [HM.out.half.len2]; exact hlt), List.getElem?_eq_getElem _⟩
      have HX := Lib.hid hx
      have hfx := Lib.hid (HFIT.out.2.2.1 x (List.mem_of_getElem? hx))
      obtain ⟨L, P, m, hcs, hL, hP⟩ := HM.out.half.post i x (Nat.le_refl _) hx
      obtain ⟨AL, cL, hLf⟩ := hL.form
      obtain ⟨AP, cP, hPf⟩ := hP.form
      subst hLf hPf
      have HLL := Lib.hid hL
      have HPP := Lib.hid hP
      obtain ⟨g, hA, hg1, hg2, hcell⟩ := HM.out.half.at_ hlt
      subst hA
      rw [hcs] at hcell
      have HCS := Lib.hid hcs
      obtain ⟨oi, HOI⟩ := name_itV (i * 3)
      rw [HOI.out] at hcell
      have HCELL := Lib.hid hcell
      obtain ⟨m1, Hm1⟩ := name_itV x.labels.length
      obtain ⟨m2, Hm2⟩ := name_itV x.props.length
      have hT := Lib.hid (sortTexts_any x.labels _ _ wr HLL.out (fun b hb => by have h1 := HM.out.half.up (i + 1) nN hlt; have h2 := HM.out.half.hi_; have h3 := HM.out.half.top; have h4 := hb.1.2.1; omega) hfx.out.1.1)
      rw [Hm1.out] at hT
      have d1 : wr.cell? ⟨g, oi + 1, none⟩ = some (.slice AL m1 cL) := by rw [← Hm1.out]; exact HCELL.out 1 (by omega)
      have qi : i * 3 = oi := HOI.out
      have a0 := add_zero_at' g oi
      have e1 : (0 : Int) ≤ i := by omega
      have e2 : (i : Int) < nN := by omega
      clear hx hP hcs hcell hL
      go_wp2_with fail
      refine hT.out.mono ?_
      rintro e w5 ⟨rfl, l1, hs1, hL5, ht5⟩
      have HS1 := Lib.hid hs1
      have HL5 := Lib.hid hL5
      have HT5 := Lib.hid ht5
      have hown := Lib.hid (fun b (hb : (Value.slice AL m1 cL).ownBlock = some b) => (show (aN i ≤ b ∧ b < aN (i + 1) ∧ (Value.slice (some ⟨g, 0, none⟩) nN cN).ownBlock ≠ some b) ∧ b < m from own_in HLL.out (show (Value.slice AL x.labels.length cL).ownBlock = some b from by rw [Hm1.out]; exact hb)))
      have hub := Lib.hid (show lo ≤ aN 0 ∧ aN (i + 1) ≤ z2 ∧ aN 0 ≤ aN i from ⟨HM.out.half.lo_, Nat.le_trans (HM.out.half.up (i + 1) nN hlt) HM.out.half.hi_, HM.out.half.up 0 i (by omega)⟩)
      have HP5 := Lib.hid (HPP.out.turn PaR.good HT5.out (fun b hb => by have h1 := hub.out; have h3 := HM.out.half.top; have h4 := hb.1.2.1; omega) (fun b hb h => by have := (hown.out b h).2; have := hb.2; omega))
      have hPp := Lib.hid (sortProps_any x.props _ _ w5 HP5.out (fun b hb => by have h1 := hub.out; have h3 := HM.out.half.top; have h4 := hb.1.2.1; have h5 := HT5.out.size; omega) hfx.out.1.2.1)
      rw [Hm2.out] at hPp
      have hz3w := Lib.hid HM.out.loc
      have b5 : w5.cell? ⟨z3, 0, none⟩ = some (.slice (some ⟨g, 0, none⟩) nN cN) := (HT5.out.cell (p := ⟨z3, 0, none⟩) hz3w.out.2.2.2.2 (fun h => by have h1 := hown.out z3 h; have h2 := hub.out; have h3 := hz3w.out; omega)).trans b0
      have d2 : w5.cell? ⟨g, oi + 2, none⟩ = some (.slice AP m2 cP) := (HT5.out.cell (p := ⟨g, oi + 2, none⟩) (Nat.lt_of_lt_of_le hg2 (by have h3 := HM.out.half.top; exact h3)) (fun h => (hown.out g h).1.2.2 rfl)).trans (by rw [← Hm2.out]; exact HCELL.out 2 (by omega))
      clear hs1 hL5 ht5 d1 b0
      go_wp2_with fail
      refine hPp.out.mono ?_
      rintro e w6 ⟨rfl, l2, hs2, hP6, ht6⟩
      have HS2 := Lib.hid hs2
      have HP6 := Lib.hid hP6
      have HT6 := Lib.hid ht6
      have hownP := Lib.hid (fun b (hb : (Value.slice AP m2 cP).ownBlock = some b) => (show (aN i ≤ b ∧ b < aN (i + 1) ∧ (Value.slice (some ⟨g, 0, none⟩) nN cN).ownBlock ≠ some b) ∧ m ≤ b from own_in HPP.out (show (Value.slice AP x.props.length cP).ownBlock = some b from by rw [Hm2.out]; exact hb)))
      have HTT := Lib.hid (show Turn (fun b => aN i ≤ b ∧ b < aN (i + 1) ∧ (Value.slice (some ⟨g, 0, none⟩) nN cN).ownBlock ≠ some b) wr w6 from (HT5.out.mono (fun b _ h => (hown.out b h).1)).trans (HT6.out.mono (fun b _ h => (hownP.out b h).1)))
      have HNY := Lib.hid (show NoR w6 (fun b => aN i ≤ b ∧ b < aN (i + 1) ∧ (Value.slice (some ⟨g, 0, none⟩) nN cN).ownBlock ≠ some b) ⟨x.id, l1, l2⟩ (cs i) from by
        rw [HCS.out, Hm1.out, Hm2.out]
        have hll : l1.length = x.labels.length := HS1.out.1.length_eq
        have hlp : l2.length = x.props.length := HS2.out.1.length_eq
        refine ⟨_, _, rfl, SlR.mono TxR.good (SOwn.rd TxR.good (HL5.out.turn TxR.good HT6.out (fun b hb => by have h1 := hub.out; have h3 := HM.out.half.top; have h4 := hb.1.2.1; have h5 := HT5.out.size; omega) (fun b hb h => by have := (hownP.out b h).2; have := hb.2; omega))) (fun b hb => hb.1), ?_⟩
        exact SlR.mono PaR.good (SOwn.rd PaR.good HP6.out) (fun b hb => hb.1))
      have HM6 := Lib.hid (HM.out.mv HTT.out (fun b hb => by have h1 := hub.out; omega) (HM.out.half.next NoR.good.t NoO.good hlt HTT.out (fun b hb => hb) HNY.out))
      have hsrt : SrtN x ⟨x.id, l1, l2⟩ := ⟨rfl, HS1.out, HS2.out⟩
      clear hs2 hP6 ht6 d2 b5
      have HDM6 := Lib.hid (HDM.out.next HX.out hsrt)
      have HSM6 := Lib.hid ((HSM.out.set (show ms[i]? = some x from (HDM.out.2.2 i (Nat.le_refl _)).trans HX.out) ⟨x.id, l1, l2⟩).ins)
      obtain ⟨ms6, Hms6⟩ := name_itV (ms.set i ⟨x.id, l1, l2⟩)
      obtain ⟨c6, Hc6⟩ := name_itV (c.set i ⟨x.id, l1, l2⟩)
      rw [Hms6.out] at HDM6 HSM6
      rw [Hc6.out] at HM6 HSM6
      clear hsrt qi a0 e1 e2
      have w0 : IntKind.i64.wrap ((i : Int) + 1) = (i : Int) + 1 := IntWalk.i64_in _ (by omega)
      clear HM HSM HDM HPP HNY HTT HP6 HS2 HT6 hownP hPp HX hfx HCS HCELL HOI Hms6 Hc6 HLL hT HS1 HL5 HT5 hown HP5 hz3w
      go_wp2_with fail
      go_loopw [5] (fun s wx => ∃ (k : Nat) (c : List NodeD) (cs : Nat → Array Value), k ≤ i ∧ s = .int .i64 (k : Nat) ∧ Hid (Pn w zr z3 lo z2 G (some ⟨g, 0, none⟩) nN cN AE nE cE csE aE aN (i + 1) c cs wx ∧ InsM leND ms6 i k c)) (fun s _ => (intOf s).toNat)
      case atStart => exact ⟨i, c6, _, Nat.le_refl _, rfl, Lib.hid ⟨HM6.out, HSM6.out⟩⟩
      case round =>
        clear HM6 HSM6
        obtain ⟨k, c, cs, hki, rfl, hM2⟩ := hrel
        have HM := Lib.hid hM2.out.1
        have HIM := Lib.hid hM2.out.2
        clear hM2
        by_cases hk0 : 0 < k
        · have hlc : c.length = nN := HM.out.half.len
          obtain ⟨x, hx⟩ : ∃ x, c[k]? = some x := ⟨c[k]'(by omega), List.getElem?_eq_getElem _⟩
          obtain ⟨y, hy⟩ : ∃ y, c[k - 1]? = some y := ⟨c[k - 1]'(by omega), List.getElem?_eq_getElem _⟩
          obtain ⟨g', hA, _, _, _, _, hcx, hcy, hfr, hrx, hry, hsw⟩ := HM.out.half.two NoR.good.t NoO.good hk0 (by omega) hx hy
          obtain rfl : g = g' := by injection hA with hA; injection hA
          obtain ⟨LX, PX, ecx, ⟨AL1, cL1, rfl, _, _⟩, AP1, cP1, rfl, _, _⟩ := hrx
          obtain ⟨LY, PY, ecy, ⟨AL2, cL2, rfl, _, _⟩, AP2, cP2, rfl, _, _⟩ := hry
          obtain ⟨xid, Hxid⟩ := name_itV x.id
          obtain ⟨yid, Hyid⟩ := name_itV y.id
          obtain ⟨m1x, Hm1x⟩ := name_itV x.labels.length
          obtain ⟨m2x, Hm2x⟩ := name_itV x.props.length
          obtain ⟨m1y, Hm1y⟩ := name_itV y.labels.length
          obtain ⟨m2y, Hm2y⟩ := name_itV y.props.length
          rw [Hxid.out, Hm1x.out, Hm2x.out] at ecx
          rw [Hyid.out, Hm1y.out, Hm2y.out] at ecy
          rw [ecx] at hcx hsw
          rw [ecy] at hcy hsw
          obtain ⟨j, hj⟩ : ∃ j, j = k - 1 := ⟨_, rfl⟩
          have HJ := Lib.hid hj
          have HX := Lib.hid hx
          have HY := Lib.hid hy
          rw [← hj] at hcy hsw
          obtain ⟨ok, HOK⟩ := name_itV (k * 3)
          obtain ⟨oj, HOJ⟩ := name_itV (j * 3)
          rw [HOK.out] at hcx hsw
          rw [HOJ.out] at hcy hsw
          have c1 : wr.cell? ⟨g, ok, none⟩ = some (.int .i64 xid) := hcx 0 (by omega)
          have c2 : wr.cell? ⟨g, oj, none⟩ = some (.int .i64 yid) := hcy 0 (by omega)
          have HCX := Lib.hid hcx
          have HCY := Lib.hid hcy
          have HSWP := Lib.hid (fun (W : World) (ht : Turn (fun _ => False) wr W) => (show HalfC 38 3 NoR NoO ((((((W.setCell ⟨g, ok, none⟩ (.int .i64 yid)).setCell ⟨g, ok + 1, none⟩ (.slice AL2 m1y cL2)).setCell ⟨g, ok + 2, none⟩ (.slice AP2 m2y cP2)).setCell ⟨g, oj, none⟩ (.int .i64 xid)).setCell ⟨g, oj + 1, none⟩ (.slice AL1 m1x cL1)).setCell ⟨g, oj + 2, none⟩ (.slice AP1 m2x cP1)) lo z2 G.nodes (swapA c k x y) (i + 1) (some ⟨g, 0, none⟩) nN cN (swapF cs k) aN from hsw (fun _ => False) W ht (fun _ _ _ h => h)))
          have HFR := Lib.hid hfr
          have HFG := Lib.hid (show g < wr.heap.size from Nat.lt_of_lt_of_le hg2 HM.out.half.top)
          have b0 : wr.cell? ⟨z3, 0, none⟩ = some (.slice (some ⟨g, 0, none⟩) nN cN) := Lib.cell_of_heap HM.out.box 0
          have a1 := add_zero_at' g ok
          have a2 := add_zero_at' g oj
          have qk : k * 3 = ok := HOK.out
          have qj : j * 3 = oj := HOJ.out
          have w2 : IntKind.i64.wrap ((k : Int) - 1) = (j : Int) := by rw [IntWalk.i64_in _ (by omega)]; omega
          have e1 : (0 : Int) ≤ k := by omega
          have e2 : (k : Int) < nN := by omega
          have e3 : (0 : Int) ≤ j := by omega
          have e4 : (j : Int) < nN := by omega
          have e5 : (0 : Int) < k := by omega
          have hjk : j < k := by omega
          clear hx hy hcx hcy hfr hsw hj ecx ecy hlc hA
          by_cases hb : xid < yid
          · have HLE := Lib.hid (show leND x y from leI_of (by rw [Hxid.out, Hyid.out]; omega))
            have g1 : decide (xid < yid) = true := decide_eq_true hb
            go_upto_region 8 with fail
            go_quiet (fail)
            obtain ⟨wq, Hwq⟩ := name_itV (wr.drewN nq)
            have HTQ := Lib.hid (show Turn (fun _ => False) wr wq from by rw [← Hwq.out]; exact turn_drewN (Turn.refl _ _) nq)
            have q0 : wq.cell? ⟨z3, 0, none⟩ = some (.slice (some ⟨g, 0, none⟩) nN cN) := by rw [← Hwq.out]; exact b0
            have x0 : wq.cell? ⟨g, ok, none⟩ = some (.int .i64 xid) := by rw [← Hwq.out]; exact HCX.out 0 (by omega)
            have x1 : wq.cell? ⟨g, ok + 1, none⟩ = some (.slice AL1 m1x cL1) := by rw [← Hwq.out]; exact HCX.out 1 (by omega)
            have x2 : wq.cell? ⟨g, ok + 2, none⟩ = some (.slice AP1 m2x cP1) := by rw [← Hwq.out]; exact HCX.out 2 (by omega)
            rw [Hwq.out]
            clear c1 c2 b0
            go_upto_region 11 with fail
            obtain ⟨zn, Hzn⟩ := name_itV wq.heap.size
            obtain ⟨w5, HW5⟩ := name_itV (wq.alloc (.cells #[.int .i64 xid, .slice AL1 m1x cL1, .slice AP1 m2x cP1] 38))
            have HT5 := Lib.hid (show Turn (fun _ => False) wr w5 from by rw [← HW5.out]; exact HTQ.out.alloc _)
            have HK5 := Lib.hid (show w5.heap[zn]? = some (.cells #[.int .i64 xid, .slice AL1 m1x cL1, .slice AP1 m2x cP1] 38 (0, 0)) from by rw [← HW5.out, ← Hzn.out]; exact heap_alloc_new wq _)
            have hgz := Lib.hid (show g < zn from by have := HTQ.out.size; have := HFG.out; have := Hzn.out; omega)
            have HM5 := Lib.hid (HM.out.still HT5.out)
            have HFRN := Lib.hid (fun (o : Nat) => (show w5.frozen? ⟨g, o, none⟩ = false from frozen_keep HT5.out HFG.out (fun h => h) (HFR.out o)))
            have p0 : w5.cell? ⟨z3, 0, none⟩ = some (.slice (some ⟨g, 0, none⟩) nN cN) := Lib.cell_of_heap HM5.out.box 0
            have y0 : w5.cell? ⟨g, oj, none⟩ = some (.int .i64 yid) := (HT5.out.cell (p := ⟨g, oj, none⟩) HFG.out (fun h => h)).trans (HCY.out 0 (by omega))
            have y1 : w5.cell? ⟨g, oj + 1, none⟩ = some (.slice AL2 m1y cL2) := (HT5.out.cell (p := ⟨g, oj + 1, none⟩) HFG.out (fun h => h)).trans (HCY.out 1 (by omega))
            have y2 : w5.cell? ⟨g, oj + 2, none⟩ = some (.slice AP2 m2y cP2) := (HT5.out.cell (p := ⟨g, oj + 2, none⟩) HFG.out (fun h => h)).trans (HCY.out 2 (by omega))
            have u0 : w5.cell? ⟨g, ok, none⟩ = some (.int .i64 xid) := (HT5.out.cell (p := ⟨g, ok, none⟩) HFG.out (fun h => h)).trans (HCX.out 0 (by omega))
            have u1 : w5.cell? ⟨g, ok + 1, none⟩ = some (.slice AL1 m1x cL1) := (HT5.out.cell (p := ⟨g, ok + 1, none⟩) HFG.out (fun h => h)).trans (HCX.out 1 (by omega))
            have u2 : w5.cell? ⟨g, ok + 2, none⟩ = some (.slice AP1 m2x cP1) := (HT5.out.cell (p := ⟨g, ok + 2, none⟩) HFG.out (fun h => h)).trans (HCX.out 2 (by omega))
            have f0 : w5.frozen? ⟨g, ok, none⟩ = false := HFRN.out (ok)
            have f1 : w5.frozen? ⟨g, ok + 1, none⟩ = false := HFRN.out (ok + 1)
            have f2 : w5.frozen? ⟨g, ok + 2, none⟩ = false := HFRN.out (ok + 2)
            rw [Hzn.out, HW5.out]
            clear q0 x0 x1 x2
            go_still_tail 10, (by kernel_rfl)
            change wpList _ _ _ _ _ (World.drew _)
            go_upto_region 12 with fail
            obtain ⟨w6, HW6⟩ := name_itV ((((w5.setCell ⟨g, ok, none⟩ (.int .i64 yid)).setCell ⟨g, ok + 1, none⟩ (.slice AL2 m1y cL2)).setCell ⟨g, ok + 2, none⟩ (.slice AP2 m2y cP2))).drew
            have HT5d := Lib.hid (show Turn (fun _ => False) wr w5.drew from HT5.out.drew)
            have HT6 := Lib.hid (show Turn (fun b => b = g) w5 w6 from by rw [← HW6.out]; exact (turn_setW (w := w5) (g := g) (o := ok) [.int .i64 yid, .slice AL2 m1y cL2, .slice AP2 m2y cP2]).drew)
            have HSE := Lib.hid (show w6 = (setW w5 g ok [.int .i64 yid, .slice AL2 m1y cL2, .slice AP2 m2y cP2]).drew from HW6.out.symm)
            have HK6 := Lib.hid ((HT6.out.block zn (blk_lt HK5.out) (fun h => by have := hgz.out; omega)).trans HK5.out)
            have HFRM := Lib.hid (fun (o : Nat) => (show w6.frozen? ⟨g, o, none⟩ = false from by rw [HSE.out]; exact frozen_setW' (w := w5) (g := g) (p := o) (o := ok) _ (HFRN.out o)))
            have HYC := Lib.hid (fun (m : Nat) (hm : oj + 3 ≤ ok) (hm2 : m < 3) => (show w6.cell? ⟨g, oj + m, none⟩ = w5.cell? ⟨g, oj + m, none⟩ from by rw [HSE.out]; exact cell_setW' (w := w5) (g := g) (p := oj + m) (o := ok) _ (by simp only [List.length_cons, List.length_nil]; omega)))
            have r0 : w6.cell? ⟨z3, 0, none⟩ = some (.slice (some ⟨g, 0, none⟩) nN cN) := (HT6.out.cell (p := ⟨z3, 0, none⟩) (show z3 < w5.heap.size from HM5.out.loc.2.2.2.2) (fun h => by have h1 : z3 = g := h; have := HM5.out.loc; omega)).trans p0
            rw [HW6.out]
            clear p0 y0 y1 y2 u0 u1 u2 f0 f1 f2
            have b0 : w6.cell? ⟨zn, 0, none⟩ = some (.int .i64 xid) := Lib.cell_of_heap HK6.out 0
            have b1 : w6.cell? ⟨zn, 1, none⟩ = some (.slice AL1 m1x cL1) := Lib.cell_of_heap HK6.out 1
            have b2 : w6.cell? ⟨zn, 2, none⟩ = some (.slice AP1 m2x cP1) := Lib.cell_of_heap HK6.out 2
            have v0 : w6.cell? ⟨g, oj, none⟩ = some (.int .i64 yid) := (HYC.out 0 (by have h1 := HOK.out; have h2 := HOJ.out; omega) (by omega)).trans ((HT5.out.cell (p := ⟨g, oj, none⟩) HFG.out (fun h => h)).trans (HCY.out 0 (by omega)))
            have v1 : w6.cell? ⟨g, oj + 1, none⟩ = some (.slice AL2 m1y cL2) := (HYC.out 1 (by have h1 := HOK.out; have h2 := HOJ.out; omega) (by omega)).trans ((HT5.out.cell (p := ⟨g, oj + 1, none⟩) HFG.out (fun h => h)).trans (HCY.out 1 (by omega)))
            have v2 : w6.cell? ⟨g, oj + 2, none⟩ = some (.slice AP2 m2y cP2) := (HYC.out 2 (by have h1 := HOK.out; have h2 := HOJ.out; omega) (by omega)).trans ((HT5.out.cell (p := ⟨g, oj + 2, none⟩) HFG.out (fun h => h)).trans (HCY.out 2 (by omega)))
            have f0 := HFRM.out (oj)
            have f1 := HFRM.out (oj + 1)
            have f2 := HFRM.out (oj + 2)
            go_wp2_with fail
            go_roundw
            case measure => simp [intOf]; omega
            case rel =>
              have hown := HSWP.out w5.drew HT5d.out
              rw [show (((w5.drew.setCell ⟨g, ok, none⟩ (.int .i64 yid)).setCell ⟨g, ok + 1, none⟩ (.slice AL2 m1y cL2)).setCell ⟨g, ok + 2, none⟩ (.slice AP2 m2y cP2)) = ((((w5.setCell ⟨g, ok, none⟩ (.int .i64 yid)).setCell ⟨g, ok + 1, none⟩ (.slice AL2 m1y cL2)).setCell ⟨g, ok + 2, none⟩ (.slice AP2 m2y cP2))).drew from by simp only [setCell_drew], HW6.out] at hown
              have ht := HT6.out.trans (turn_setW (w := w6) (g := g) (o := oj) [.int .i64 xid, .slice AL1 m1x cL1, .slice AP1 m2x cP1])
              refine ⟨j, swapA c k x y, swapF cs k, by omega, rfl, Lib.hid ⟨(HM.out.still HT5.out).mv ht (fun b hb => by have h1 : b = g := hb; omega) hown, ?_⟩⟩
              rw [HJ.out]
              exact HIM.out.step hk0 hki HX.out HY.out HLE.out
          · have HLE := Lib.hid (show leND y x from leI_of (by rw [Hxid.out, Hyid.out]; omega))
            have g1 : decide (xid < yid) = false := decide_eq_false hb
            go_upto_region 8 with fail
            go_quiet (fail)
            go_wp2_with fail
            go_roundw
            case measure => simp [intOf]; omega
            case rel => exact ⟨i + 1, c, ms6, cs, by omega, by go_num, Lib.hid ⟨HM.out.still (turn_drewN (Turn.refl _ _) nq), HIM.out.stop (fun a b d h1 h2 => leI_tr h1 h2) hk0 hki HX.out HY.out HLE.out, HDM6.out⟩⟩
        · have hk : k = 0 := by omega
          have HK := Lib.hid hk
          have g2 : decide ((0 : Int) < (k : Int)) = false := decide_eq_false (by omega)
          have g3 : ¬ ((0 : Int) < (k : Int)) := by omega
          clear hk
          go_upto_region 8 with fail
          go_quiet (fail)
          go_wp2_with fail
          go_roundw
          case measure => simp [intOf]; omega
          case rel =>
            refine ⟨i + 1, c, ms6, cs, by omega, by go_num, Lib.hid ⟨HM.out.still (turn_drewN (Turn.refl _ _) nq), ?_, HDM6.out⟩⟩
            have h1 := HIM.out
            rw [HK.out] at h1
            exact h1.low
    · have hke : nN = i := by omega
      have HNS := Lib.hid (show SrtNs G.nodes c from ⟨ms, HDM.out.all (by rw [HM.out.half.len2, hke]; exact Nat.le_refl _), HSM.out.done (by rw [HDM.out.1, HM.out.half.len2, hke]; exact Nat.le_refl _)⟩)
      obtain ⟨ns, hns⟩ : ∃ ns, ns = c := ⟨c, rfl⟩
      rw [← hns] at HNS
      have HLN := Lib.hid (show ns.length = nN from by rw [hns]; exact HM.out.half.len)
      have HP0 := Lib.hid (show Pe w zr z3 lo z2 G ns AN nN cN AE nE cE aE 0 G.edges csE wr from by
        have h1 := HM.out.half
        rw [← hke] at h1
        rw [hns]
        exact ⟨HM.out.below, HM.out.res, HM.out.box, h1.sown NoR.good.t, HM.out.edges.half, HM.out.loc⟩)
      clear HM HSM HDM hns
      have HKE := Lib.hid hke
      clear hke
      obtain ⟨iN, HiN⟩ := name_itV i
      go_upto_region 13 with fail
      clear b0
      go_wp2_with fail
      go_loopw [7] (fun s wx => ∃ (i : Nat) (c ms : List EdgeD) (cs : Nat → Array Value), i ≤ nE ∧ s = .int .i64 (i : Nat) ∧ Hid (Pe w zr z3 lo z2 G ns AN nN cN AE nE cE aE i c cs wx ∧ SrtM leED ms i c ∧ DoneM SrtE G.edges ms i)) (fun s _ => nE - (intOf s).toNat)
      case atStart => exact ⟨0, G.edges, G.edges, _, by omega, rfl, Lib.hid ⟨HP0.out, SrtM.zero, DoneM.zero⟩⟩
      case round =>
        obtain ⟨i, c, ms, cs, hi, rfl, hM2⟩ := hrel
        have HM := Lib.hid hM2.out.1
        have HSM := Lib.hid hM2.out.2.1
        have HDM := Lib.hid hM2.out.2.2
        clear hM2
        have b0 : wr.cell? ⟨z3, 1, none⟩ = some (.slice AE nE cE) := Lib.cell_of_heap HM.out.box 1
        by_cases hlt : i < nE
        · obtain ⟨x, hx⟩ : ∃ x, G.edges[i]? = some x := ⟨G.edges[i]'(by rw [HM.out.half.len2]; exact hlt), List.getElem?_eq_getElem _⟩
          have HX := Lib.hid hx
          have hfx := Lib.hid (HFIT.out.2.2.2 x (List.mem_of_getElem? hx))
          obtain ⟨P, hcs, hP⟩ := HM.out.half.post i x (Nat.le_refl _) hx
          obtain ⟨AP, cP, hPf⟩ := hP.form
          subst hPf
          have HPP := Lib.hid hP
          obtain ⟨g, hA, hg1, hg2, hcell⟩ := HM.out.half.at_ hlt
          subst hA
          rw [hcs] at hcell
          have HCS := Lib.hid hcs
          obtain ⟨oi, HOI⟩ := name_itV (i * 5)
          rw [HOI.out] at hcell
          have HCELL := Lib.hid hcell
          obtain ⟨m2, Hm2⟩ := name_itV x.props.length
          have hPp := Lib.hid (sortProps_any x.props _ _ wr HPP.out (fun b hb => by have h1 := HM.out.half.up (i + 1) nE hlt; have h2 := HM.out.half.hi_; have h3 := HM.out.half.top; have h4 := hb.2.1; omega) hfx.out.1.2.1)
          rw [Hm2.out] at hPp
          have d4 : wr.cell? ⟨g, oi + 4, none⟩ = some (.slice AP m2 cP) := by rw [← Hm2.out]; exact HCELL.out 4 (by omega)
          have qi : i * 5 = oi := HOI.out
          have a0 := add_zero_at' g oi
          have e1 : (0 : Int) ≤ i := by omega
          have e2 : (i : Int) < nE := by omega
          clear hx hP hcs hcell
          go_wp2_with fail
          refine hPp.out.mono ?_
          rintro e w6 ⟨rfl, l2, hs2, hP6, ht6⟩
          have HS2 := Lib.hid hs2
          have HP6 := Lib.hid hP6
          have HT6 := Lib.hid ht6
          have hub := Lib.hid (show z2 ≤ aE 0 ∧ aE (i + 1) ≤ z3 ∧ aE 0 ≤ aE i from ⟨HM.out.half.lo_, Nat.le_trans (HM.out.half.up (i + 1) nE hlt) HM.out.half.hi_, HM.out.half.up 0 i (by omega)⟩)
          have hownP := Lib.hid (fun b (hb : (Value.slice AP m2 cP).ownBlock = some b) => (show aE i ≤ b ∧ b < aE (i + 1) ∧ (Value.slice (some ⟨g, 0, none⟩) nE cE).ownBlock ≠ some b from own_in HPP.out (show (Value.slice AP x.props.length cP).ownBlock = some b from by rw [Hm2.out]; exact hb)))
          have HTT := Lib.hid (show Turn (fun b => aE i ≤ b ∧ b < aE (i + 1) ∧ (Value.slice (some ⟨g, 0, none⟩) nE cE).ownBlock ≠ some b) wr w6 from HT6.out.mono (fun b _ h => hownP.out b h))
          have HNY := Lib.hid (show EdR w6 (fun b => aE i ≤ b ∧ b < aE (i + 1) ∧ (Value.slice (some ⟨g, 0, none⟩) nE cE).ownBlock ≠ some b) ⟨x.id, x.src, x.dst, x.type, l2⟩ (cs i) from by
            rw [HCS.out, Hm2.out]
            have hlp : l2.length = x.props.length := HS2.out.1.length_eq
            exact ⟨_, rfl, SOwn.rd PaR.good HP6.out⟩)
          have HM6 := Lib.hid (HM.out.mv HTT.out (fun b hb => by have h1 := hub.out; omega) (HM.out.half.next EdR.good.t EdO.good hlt HTT.out (fun b hb => hb) HNY.out))
          have hsrt : SrtE x ⟨x.id, x.src, x.dst, x.type, l2⟩ := ⟨rfl, rfl, rfl, rfl, HS2.out⟩
          clear hs2 hP6 ht6 d4 b0
          have HDM6 := Lib.hid (HDM.out.next HX.out hsrt)
          have HSM6 := Lib.hid ((HSM.out.set (show ms[i]? = some x from (HDM.out.2.2 i (Nat.le_refl _)).trans HX.out) ⟨x.id, x.src, x.dst, x.type, l2⟩).ins)
          obtain ⟨ms6, Hms6⟩ := name_itV (ms.set i ⟨x.id, x.src, x.dst, x.type, l2⟩)
          obtain ⟨c6, Hc6⟩ := name_itV (c.set i ⟨x.id, x.src, x.dst, x.type, l2⟩)
          rw [Hms6.out] at HDM6 HSM6
          rw [Hc6.out] at HM6 HSM6
          clear hsrt qi a0 e1 e2
          have w0 : IntKind.i64.wrap ((i : Int) + 1) = (i : Int) + 1 := IntWalk.i64_in _ (by omega)
          clear HM HSM HDM HPP HNY HTT HP6 HS2 HT6 hownP hPp HX hfx HCS HCELL HOI Hms6 Hc6
          go_wp2_with fail
          go_loopw [8] (fun s wx => ∃ (k : Nat) (c : List EdgeD) (cs : Nat → Array Value), k ≤ i ∧ s = .int .i64 (k : Nat) ∧ Hid (Pe w zr z3 lo z2 G ns AN nN cN (some ⟨g, 0, none⟩) nE cE aE (i + 1) c cs wx ∧ InsM leED ms6 i k c)) (fun s _ => (intOf s).toNat)
          case atStart => exact ⟨i, c6, _, Nat.le_refl _, rfl, Lib.hid ⟨HM6.out, HSM6.out⟩⟩
          case round =>
            clear HM6 HSM6
            obtain ⟨k, c, cs, hki, rfl, hM2⟩ := hrel
            have HM := Lib.hid hM2.out.1
            have HIM := Lib.hid hM2.out.2
            clear hM2
            by_cases hk0 : 0 < k
            · have hlc : c.length = nE := HM.out.half.len
              obtain ⟨x, hx⟩ : ∃ x, c[k]? = some x := ⟨c[k]'(by omega), List.getElem?_eq_getElem _⟩
              obtain ⟨y, hy⟩ : ∃ y, c[k - 1]? = some y := ⟨c[k - 1]'(by omega), List.getElem?_eq_getElem _⟩
              obtain ⟨g', hA, _, _, _, _, hcx, hcy, hfr, hrx, hry, hsw⟩ := HM.out.half.two EdR.good.t EdO.good hk0 (by omega) hx hy
              obtain rfl : g = g' := by injection hA with hA; injection hA
              obtain ⟨PX, ecx, AP1, cP1, rfl, _, _⟩ := hrx
              obtain ⟨PY, ecy, AP2, cP2, rfl, _, _⟩ := hry
              obtain ⟨xid, Hxid⟩ := name_itV x.id
              obtain ⟨xs, Hxs⟩ := name_itV x.src
              obtain ⟨xd, Hxd⟩ := name_itV x.dst
              obtain ⟨xt, Hxt⟩ := name_itV x.type
              obtain ⟨xm, Hxm⟩ := name_itV x.props.length
              obtain ⟨yid, Hyid⟩ := name_itV y.id
              obtain ⟨ys, Hys⟩ := name_itV y.src
              obtain ⟨yd, Hyd⟩ := name_itV y.dst
              obtain ⟨yt, Hyt⟩ := name_itV y.type
              obtain ⟨ym, Hym⟩ := name_itV y.props.length
              rw [Hxid.out, Hxs.out, Hxd.out, Hxt.out, Hxm.out] at ecx
              rw [Hyid.out, Hys.out, Hyd.out, Hyt.out, Hym.out] at ecy
              rw [ecx] at hcx hsw
              rw [ecy] at hcy hsw
              obtain ⟨j, hj⟩ : ∃ j, j = k - 1 := ⟨_, rfl⟩
              have HJ := Lib.hid hj
              have HX := Lib.hid hx
              have HY := Lib.hid hy
              rw [← hj] at hcy hsw
              obtain ⟨ok, HOK⟩ := name_itV (k * 5)
              obtain ⟨oj, HOJ⟩ := name_itV (j * 5)
              rw [HOK.out] at hcx hsw
              rw [HOJ.out] at hcy hsw
              have c1 : wr.cell? ⟨g, ok, none⟩ = some (.int .i64 xid) := hcx 0 (by omega)
              have c2 : wr.cell? ⟨g, oj, none⟩ = some (.int .i64 yid) := hcy 0 (by omega)
              have HCX := Lib.hid hcx
              have HCY := Lib.hid hcy
              have HSWP := Lib.hid (fun (W : World) (ht : Turn (fun _ => False) wr W) => (show HalfC 41 5 EdR EdO ((((((((((W.setCell ⟨g, ok, none⟩ (.int .i64 yid)).setCell ⟨g, ok + 1, none⟩ (.int .i64 ys)).setCell ⟨g, ok + 2, none⟩ (.int .i64 yd)).setCell ⟨g, ok + 3, none⟩ (.string yt)).setCell ⟨g, ok + 4, none⟩ (.slice AP2 ym cP2)).setCell ⟨g, oj, none⟩ (.int .i64 xid)).setCell ⟨g, oj + 1, none⟩ (.int .i64 xs)).setCell ⟨g, oj + 2, none⟩ (.int .i64 xd)).setCell ⟨g, oj + 3, none⟩ (.string xt)).setCell ⟨g, oj + 4, none⟩ (.slice AP1 xm cP1)) z2 z3 G.edges (swapA c k x y) (i + 1) (some ⟨g, 0, none⟩) nE cE (swapF cs k) aE from hsw (fun _ => False) W ht (fun _ _ _ h => h)))
              have HFR := Lib.hid hfr
              have HFG := Lib.hid (show g < wr.heap.size from Nat.lt_of_lt_of_le hg2 HM.out.half.top)
              have b0 : wr.cell? ⟨z3, 1, none⟩ = some (.slice (some ⟨g, 0, none⟩) nE cE) := Lib.cell_of_heap HM.out.box 1
              have a1 := add_zero_at' g ok
              have a2 := add_zero_at' g oj
              have qk : k * 5 = ok := HOK.out
              have qj : j * 5 = oj := HOJ.out
              have w2 : IntKind.i64.wrap ((k : Int) - 1) = (j : Int) := by rw [IntWalk.i64_in _ (by omega)]; omega
              have e1 : (0 : Int) ≤ k := by omega
              have e2 : (k : Int) < nE := by omega
              have e3 : (0 : Int) ≤ j := by omega
              have e4 : (j : Int) < nE := by omega
              have e5 : (0 : Int) < k := by omega
              have hjk : j < k := by omega
              clear hx hy hcx hcy hfr hsw hj ecx ecy hlc hA
              by_cases hb : xid < yid
              · have HLE := Lib.hid (show leED x y from leI_of (by rw [Hxid.out, Hyid.out]; omega))
                have g1 : decide (xid < yid) = true := decide_eq_true hb
                go_upto_region 18 with fail
                go_quiet (fail)
                obtain ⟨wq, Hwq⟩ := name_itV (wr.drewN nq)
                have HTQ := Lib.hid (show Turn (fun _ => False) wr wq from by rw [← Hwq.out]; exact turn_drewN (Turn.refl _ _) nq)
                have q0 : wq.cell? ⟨z3, 1, none⟩ = some (.slice (some ⟨g, 0, none⟩) nE cE) := by rw [← Hwq.out]; exact b0
                have x0 : wq.cell? ⟨g, ok, none⟩ = some (.int .i64 xid) := by rw [← Hwq.out]; exact HCX.out 0 (by omega)
                have x1 : wq.cell? ⟨g, ok + 1, none⟩ = some (.int .i64 xs) := by rw [← Hwq.out]; exact HCX.out 1 (by omega)
                have x2 : wq.cell? ⟨g, ok + 2, none⟩ = some (.int .i64 xd) := by rw [← Hwq.out]; exact HCX.out 2 (by omega)
                have x3 : wq.cell? ⟨g, ok + 3, none⟩ = some (.string xt) := by rw [← Hwq.out]; exact HCX.out 3 (by omega)
                have x4 : wq.cell? ⟨g, ok + 4, none⟩ = some (.slice AP1 xm cP1) := by rw [← Hwq.out]; exact HCX.out 4 (by omega)
                rw [Hwq.out]
                clear c1 c2 b0
                go_upto_region 21 with fail
                obtain ⟨zn, Hzn⟩ := name_itV wq.heap.size
                obtain ⟨w5, HW5⟩ := name_itV (wq.alloc (.cells #[.int .i64 xid, .int .i64 xs, .int .i64 xd, .string xt, .slice AP1 xm cP1] 41))
                have HT5 := Lib.hid (show Turn (fun _ => False) wr w5 from by rw [← HW5.out]; exact HTQ.out.alloc _)
                have HK5 := Lib.hid (show w5.heap[zn]? = some (.cells #[.int .i64 xid, .int .i64 xs, .int .i64 xd, .string xt, .slice AP1 xm cP1] 41 (0, 0)) from by rw [← HW5.out, ← Hzn.out]; exact heap_alloc_new wq _)
                have hgz := Lib.hid (show g < zn from by have := HTQ.out.size; have := HFG.out; have := Hzn.out; omega)
                have HM5 := Lib.hid (HM.out.still HT5.out)
                have HFRN := Lib.hid (fun (o : Nat) => (show w5.frozen? ⟨g, o, none⟩ = false from frozen_keep HT5.out HFG.out (fun h => h) (HFR.out o)))
                have p0 : w5.cell? ⟨z3, 1, none⟩ = some (.slice (some ⟨g, 0, none⟩) nE cE) := Lib.cell_of_heap HM5.out.box 1
                have y0 : w5.cell? ⟨g, oj, none⟩ = some (.int .i64 yid) := (HT5.out.cell (p := ⟨g, oj, none⟩) HFG.out (fun h => h)).trans (HCY.out 0 (by omega))
                have y1 : w5.cell? ⟨g, oj + 1, none⟩ = some (.int .i64 ys) := (HT5.out.cell (p := ⟨g, oj + 1, none⟩) HFG.out (fun h => h)).trans (HCY.out 1 (by omega))
                have y2 : w5.cell? ⟨g, oj + 2, none⟩ = some (.int .i64 yd) := (HT5.out.cell (p := ⟨g, oj + 2, none⟩) HFG.out (fun h => h)).trans (HCY.out 2 (by omega))
                have y3 : w5.cell? ⟨g, oj + 3, none⟩ = some (.string yt) := (HT5.out.cell (p := ⟨g, oj + 3, none⟩) HFG.out (fun h => h)).trans (HCY.out 3 (by omega))
                have y4 : w5.cell? ⟨g, oj + 4, none⟩ = some (.slice AP2 ym cP2) := (HT5.out.cell (p := ⟨g, oj + 4, none⟩) HFG.out (fun h => h)).trans (HCY.out 4 (by omega))
                have u0 : w5.cell? ⟨g, ok, none⟩ = some (.int .i64 xid) := (HT5.out.cell (p := ⟨g, ok, none⟩) HFG.out (fun h => h)).trans (HCX.out 0 (by omega))
                have u1 : w5.cell? ⟨g, ok + 1, none⟩ = some (.int .i64 xs) := (HT5.out.cell (p := ⟨g, ok + 1, none⟩) HFG.out (fun h => h)).trans (HCX.out 1 (by omega))
                have u2 : w5.cell? ⟨g, ok + 2, none⟩ = some (.int .i64 xd) := (HT5.out.cell (p := ⟨g, ok + 2, none⟩) HFG.out (fun h => h)).trans (HCX.out 2 (by omega))
                have u3 : w5.cell? ⟨g, ok + 3, none⟩ = some (.string xt) := (HT5.out.cell (p := ⟨g, ok + 3, none⟩) HFG.out (fun h => h)).trans (HCX.out 3 (by omega))
                have u4 : w5.cell? ⟨g, ok + 4, none⟩ = some (.slice AP1 xm cP1) := (HT5.out.cell (p := ⟨g, ok + 4, none⟩) HFG.out (fun h => h)).trans (HCX.out 4 (by omega))
                have f0 : w5.frozen? ⟨g, ok, none⟩ = false := HFRN.out (ok)
                have f1 : w5.frozen? ⟨g, ok + 1, none⟩ = false := HFRN.out (ok + 1)
                have f2 : w5.frozen? ⟨g, ok + 2, none⟩ = false := HFRN.out (ok + 2)
                have f3 : w5.frozen? ⟨g, ok + 3, none⟩ = false := HFRN.out (ok + 3)
                have f4 : w5.frozen? ⟨g, ok + 4, none⟩ = false := HFRN.out (ok + 4)
                rw [Hzn.out, HW5.out]
                clear q0 x0 x1 x2 x3 x4
                go_still_tail 10, (by kernel_rfl)
                change wpList _ _ _ _ _ (World.drew _)
                go_upto_region 22 with fail
                obtain ⟨w6, HW6⟩ := name_itV ((((((w5.setCell ⟨g, ok, none⟩ (.int .i64 yid)).setCell ⟨g, ok + 1, none⟩ (.int .i64 ys)).setCell ⟨g, ok + 2, none⟩ (.int .i64 yd)).setCell ⟨g, ok + 3, none⟩ (.string yt)).setCell ⟨g, ok + 4, none⟩ (.slice AP2 ym cP2))).drew
                have HT5d := Lib.hid (show Turn (fun _ => False) wr w5.drew from HT5.out.drew)
                have HT6 := Lib.hid (show Turn (fun b => b = g) w5 w6 from by rw [← HW6.out]; exact (turn_setW (w := w5) (g := g) (o := ok) [.int .i64 yid, .int .i64 ys, .int .i64 yd, .string yt, .slice AP2 ym cP2]).drew)
                have HSE := Lib.hid (show w6 = (setW w5 g ok [.int .i64 yid, .int .i64 ys, .int .i64 yd, .string yt, .slice AP2 ym cP2]).drew from HW6.out.symm)
                have HK6 := Lib.hid ((HT6.out.block zn (blk_lt HK5.out) (fun h => by have := hgz.out; omega)).trans HK5.out)
                have HFRM := Lib.hid (fun (o : Nat) => (show w6.frozen? ⟨g, o, none⟩ = false from by rw [HSE.out]; exact frozen_setW' (w := w5) (g := g) (p := o) (o := ok) _ (HFRN.out o)))
                have HYC := Lib.hid (fun (m : Nat) (hm : oj + 5 ≤ ok) (hm2 : m < 5) => (show w6.cell? ⟨g, oj + m, none⟩ = w5.cell? ⟨g, oj + m, none⟩ from by rw [HSE.out]; exact cell_setW' (w := w5) (g := g) (p := oj + m) (o := ok) _ (by simp only [List.length_cons, List.length_nil]; omega)))
                have r0 : w6.cell? ⟨z3, 1, none⟩ = some (.slice (some ⟨g, 0, none⟩) nE cE) := (HT6.out.cell (p := ⟨z3, 1, none⟩) (show z3 < w5.heap.size from HM5.out.loc.2.2.2.2) (fun h => by have h1 : z3 = g := h; have := HM5.out.loc; omega)).trans p0
                rw [HW6.out]
                clear p0 y0 y1 y2 y3 y4 u0 u1 u2 u3 u4 f0 f1 f2 f3 f4
                have b0 : w6.cell? ⟨zn, 0, none⟩ = some (.int .i64 xid) := Lib.cell_of_heap HK6.out 0
                have b1 : w6.cell? ⟨zn, 1, none⟩ = some (.int .i64 xs) := Lib.cell_of_heap HK6.out 1
                have b2 : w6.cell? ⟨zn, 2, none⟩ = some (.int .i64 xd) := Lib.cell_of_heap HK6.out 2
                have b3 : w6.cell? ⟨zn, 3, none⟩ = some (.string xt) := Lib.cell_of_heap HK6.out 3
                have b4 : w6.cell? ⟨zn, 4, none⟩ = some (.slice AP1 xm cP1) := Lib.cell_of_heap HK6.out 4
                have v0 : w6.cell? ⟨g, oj, none⟩ = some (.int .i64 yid) := (HYC.out 0 (by have h1 := HOK.out; have h2 := HOJ.out; omega) (by omega)).trans ((HT5.out.cell (p := ⟨g, oj, none⟩) HFG.out (fun h => h)).trans (HCY.out 0 (by omega)))
                have v1 : w6.cell? ⟨g, oj + 1, none⟩ = some (.int .i64 ys) := (HYC.out 1 (by have h1 := HOK.out; have h2 := HOJ.out; omega) (by omega)).trans ((HT5.out.cell (p := ⟨g, oj + 1, none⟩) HFG.out (fun h => h)).trans (HCY.out 1 (by omega)))
                have v2 : w6.cell? ⟨g, oj + 2, none⟩ = some (.int .i64 yd) := (HYC.out 2 (by have h1 := HOK.out; have h2 := HOJ.out; omega) (by omega)).trans ((HT5.out.cell (p := ⟨g, oj + 2, none⟩) HFG.out (fun h => h)).trans (HCY.out 2 (by omega)))
                have v3 : w6.cell? ⟨g, oj + 3, none⟩ = some (.string yt) := (HYC.out 3 (by have h1 := HOK.out; have h2 := HOJ.out; omega) (by omega)).trans ((HT5.out.cell (p := ⟨g, oj + 3, none⟩) HFG.out (fun h => h)).trans (HCY.out 3 (by omega)))
                have v4 : w6.cell? ⟨g, oj + 4, none⟩ = some (.slice AP2 ym cP2) := (HYC.out 4 (by have h1 := HOK.out; have h2 := HOJ.out; omega) (by omega)).trans ((HT5.out.cell (p := ⟨g, oj + 4, none⟩) HFG.out (fun h => h)).trans (HCY.out 4 (by omega)))
                have f0 := HFRM.out (oj)
                have f1 := HFRM.out (oj + 1)
                have f2 := HFRM.out (oj + 2)
                have f3 := HFRM.out (oj + 3)
                have f4 := HFRM.out (oj + 4)
                go_wp2_with fail
                go_roundw
                case measure => simp [intOf]; omega
                case rel =>
                  have hown := HSWP.out w5.drew HT5d.out
                  rw [show (((((w5.drew.setCell ⟨g, ok, none⟩ (.int .i64 yid)).setCell ⟨g, ok + 1, none⟩ (.int .i64 ys)).setCell ⟨g, ok + 2, none⟩ (.int .i64 yd)).setCell ⟨g, ok + 3, none⟩ (.string yt)).setCell ⟨g, ok + 4, none⟩ (.slice AP2 ym cP2)) = ((((((w5.setCell ⟨g, ok, none⟩ (.int .i64 yid)).setCell ⟨g, ok + 1, none⟩ (.int .i64 ys)).setCell ⟨g, ok + 2, none⟩ (.int .i64 yd)).setCell ⟨g, ok + 3, none⟩ (.string yt)).setCell ⟨g, ok + 4, none⟩ (.slice AP2 ym cP2))).drew from by simp only [setCell_drew], HW6.out] at hown
                  have ht := HT6.out.trans (turn_setW (w := w6) (g := g) (o := oj) [.int .i64 xid, .int .i64 xs, .int .i64 xd, .string xt, .slice AP1 xm cP1])
                  refine ⟨j, swapA c k x y, swapF cs k, by omega, rfl, Lib.hid ⟨(HM.out.still HT5.out).mv ht (fun b hb => by have h1 : b = g := hb; omega) hown, ?_⟩⟩
                  rw [HJ.out]
                  exact HIM.out.step hk0 hki HX.out HY.out HLE.out
              · have HLE := Lib.hid (show leED y x from leI_of (by rw [Hxid.out, Hyid.out]; omega))
                have g1 : decide (xid < yid) = false := decide_eq_false hb
                go_upto_region 18 with fail
                go_quiet (fail)
                go_wp2_with fail
                go_roundw
                case measure => simp [intOf]; omega
                case rel => exact ⟨i + 1, c, ms6, cs, by omega, by go_num, Lib.hid ⟨HM.out.still (turn_drewN (Turn.refl _ _) nq), HIM.out.stop (fun a b d h1 h2 => leI_tr h1 h2) hk0 hki HX.out HY.out HLE.out, HDM6.out⟩⟩
            · have hk : k = 0 := by omega
              have HK := Lib.hid hk
              have g2 : decide ((0 : Int) < (k : Int)) = false := decide_eq_false (by omega)
              have g3 : ¬ ((0 : Int) < (k : Int)) := by omega
              clear hk
              go_upto_region 18 with fail
              go_quiet (fail)
              go_wp2_with fail
              go_roundw
              case measure => simp [intOf]; omega
              case rel =>
                refine ⟨i + 1, c, ms6, cs, by omega, by go_num, Lib.hid ⟨HM.out.still (turn_drewN (Turn.refl _ _) nq), ?_, HDM6.out⟩⟩
                have h1 := HIM.out
                rw [HK.out] at h1
                exact h1.low
        · have hke : nE = i := by omega
          have HES := Lib.hid (show SrtEs G.edges c from ⟨ms, HDM.out.all (by rw [HM.out.half.len2, hke]; exact Nat.le_refl _), HSM.out.done (by rw [HDM.out.1, HM.out.half.len2, hke]; exact Nat.le_refl _)⟩)
          have HEO := Lib.hid (show SOwn 41 5 EdR wr (fun b => z2 ≤ b ∧ b < z3) c (.slice AE nE cE) from by
            have h1 := HM.out.half
            rw [← hke] at h1
            exact h1.sown EdR.good.t)
          have HLE := Lib.hid (show c.length = nE from HM.out.half.len)
          have hby : wr.cell? ⟨z3, 0, none⟩ = some (.slice AN nN cN) := Lib.cell_of_heap HM.out.box 0
          have r0 : wr.cell? ⟨zr, 0, none⟩ = some (.slice none 0 0) := Lib.cell_of_heap HM.out.res 0
          have r1 : wr.cell? ⟨zr, 1, none⟩ = some (.slice none 0 0) := Lib.cell_of_heap HM.out.res 1
          have y0 : wr.frozen? ⟨zr, 0, none⟩ = false := Lib.frozen_of_heap HM.out.res 0
          have y1 : wr.frozen? ⟨zr, 1, none⟩ = false := Lib.frozen_of_heap HM.out.res 1
          clear HSM HDM hke
          go_wp2_with fail
          have h1 := heap_setCell_same _ zr 1 _ _ (.slice AE nE cE) (heap_setCell_same _ zr 0 _ _ (.slice AN nN cN) HM.out.res)
          have ht := (((Turn.refl (fun b => b = zr) wr).setCell (p := ⟨zr, 0, none⟩) (.inr rfl) (.slice AN nN cN)).setCell (p := ⟨zr, 1, none⟩) (.inr rfl) (.slice AE nE cE))
          obtain ⟨W9, HW9⟩ := name_itV ((wr.setCell ⟨zr, 0, none⟩ (.slice AN nN cN)).setCell ⟨zr, 1, none⟩ (.slice AE nE cE))
          rw [HW9.out] at h1 ht ⊢
          have k0 : W9.cell? ⟨zr, 0, none⟩ = some (.slice AN nN cN) := Lib.cell_of_heap h1 0
          have k1' : W9.cell? ⟨zr, 1, none⟩ = some (.slice AE nE cE) := Lib.cell_of_heap h1 1
          obtain ⟨l1, l2, l3, l4, l5⟩ := HM.out.loc
          have hsz := ht.size
          have hE9 := (HEO.out.turn EdR.good ht (fun b hb => by omega) (fun b hb h => by omega)).rd EdR.good
          have hN9 := (HM.out.nodes.turn NoR.good ht (fun b hb => by omega) (fun b hb h => by omega)).rd NoR.good
          refine bodyPost_ret (v := .agg #[.slice AN nN cN, .slice AE nE cE]) (by simp [results, Tryz.results14, go_sem, k0, k1']) rfl ⟨_, ⟨ns, c⟩, rfl, ?_, ⟨_, _, rfl, ?_, ?_⟩, HNS.out, HES.out⟩
          · exact HM.out.below.trans (ht.below (fun i _ h => by omega) HM.out.below.size)
          · exact hN9.mono NoR.good (fun b hb => ⟨by omega, by omega⟩)
          · exact hE9.mono EdR.good (fun b hb => ⟨by omega, by omega⟩)
end Go.Proofs.YtmhjbicbdahllaaGreatDoor
