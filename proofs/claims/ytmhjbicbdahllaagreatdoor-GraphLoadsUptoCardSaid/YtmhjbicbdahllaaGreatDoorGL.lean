/- 'Labeled': the numbers of the nodes that bear all the labels. -/
import Derived.Test.YtmhjbicbdahllaaGreatDoorGK
namespace Go.Proofs.YtmhjbicbdahllaaGreatDoor
open Go Go.RowKit

/-- A list of numbers comes back. -/
def NumsIs (l : List Int) (w : World) (e : Ending) (w' : World) : Prop :=
  ∃ A c, e = .returned (.slice A l.length c) ∧ Below w.heap.size w w' ∧ SRd 1 IxR w' (fun b => w.heap.size ≤ b ∧ b < w'.heap.size) l A l.length
/-- A growing list of numbers. -/
structure NumsM (w : World) (ids : List Int) (s : Value) (wr : World) : Prop where
  below : Below w.heap.size w wr
  own : SOwn 2 1 IxR wr (fun b => w.heap.size ≤ b ∧ b < wr.heap.size) ids s
theorem NumsM.on {w : World} {ids : List Int} {s : Value} {wr w2 : World} (h : NumsM w ids s wr) (hb : Below wr.heap.size wr w2) : NumsM w ids s w2 :=
  ⟨h.below.trans (hb.mono h.below.size), (h.own.turn IxR.good (Turn.of_below hb) (fun b hb => hb.2) (fun b hb hx => by omega)).mono IxR.good (fun b hx => ⟨hx.1, Nat.lt_of_lt_of_le hx.2 hb.size⟩)⟩
theorem NumsM.more {w : World} {ids : List Int} {A : Option Addr} {c : Nat} {w5 w6 : World} {x : Int} {g4 c4 : Nat} {cs : Nat → Array Value} (hb : Below w.heap.size w w5) (h6 : ∀ i, i < ids.length → (cs i).size = 1) (hr : ∀ i x, ids[i]? = some x → IxR w5 (fun b => (w.heap.size ≤ b ∧ b < w5.heap.size) ∧ (Value.slice A ids.length c).ownBlock ≠ some b) x (cs i))
    (hF : ∀ g, (Value.slice A ids.length c).ownBlock = some g → w.heap.size ≤ g ∧ g < w5.heap.size)
    (ho : w6.ownsRow 0 2 1 (.slice (some ⟨g4, 0, none⟩) (ids.length + 1) c4) (ids.length + 1) (flatC cs ids.length ++ [.int .i64 x])) (hg : w5.grownBy w6 (Value.slice A ids.length c).ownBlock) (hl : (Value.slice A ids.length c).ownBlock = some g4 ∨ w5.heap.size ≤ g4) (hg4 : g4 < w6.heap.size) :
    NumsM w (ids ++ [x]) (.slice (some ⟨g4, 0, none⟩) (ids.length + 1) c4) w6 := by
  have hsn := own_more (R := IxR) (F := fun b => w.heap.size ≤ b ∧ b < w5.heap.size) (G := fun _ => False) (sz := 1) (E := 2) (c := #[.int .i64 x]) (x := x) IxR.good h6 hr rfl rfl (fun b h => h.elim) (fun b h => h.2) (fun b h => h.elim) ho hg hl
  have hs : w5.heap.size ≤ w6.heap.size := hg.size
  refine ⟨?_, hsn.mono IxR.good (fun b hb2 => ?_)⟩
  · have ht := Turn.of_grown hg
    exact hb.trans (ht.below (B := w.heap.size) (fun i _ hi => by
      by_cases hx : w.heap.size ≤ i
      · exact hx
      · exact (hF i hi.symm).1) hb.size)
  · rcases hb2 with h | h | h
    · exact ⟨h.1, by omega⟩
    · exact h.elim
    · subst h
      refine ⟨?_, hg4⟩
      rcases hl with h | h
      · exact (hF b h).1
      · have := hb.size; omega
def labeledG (G : GraphD) (q : List ByteArray) : List Int := (G.nodes.filter (fun n => allB q n.labels)).map NodeD.id
set_option maxRecDepth 100000 in
set_option maxHeartbeats 4000000 in
theorem labeled_any (G : GraphD) (q : List ByteArray) (lo p : Nat) (Ns Es : Value) (mh mt ma mid n0 : Nat) (F : Nat → Prop) (B : Option Addr) (n2 c2 : Nat) (w : World) (hst : StoreAt w lo p G Ns Es mh mt ma mid n0)
    (hF : ∀ b, F b → b < w.heap.size) (hq : SRd 1 TxR w F q B n2) (hn2 : n2 ≤ 1000000000) (hgn : G.nodes.length ≤ 2000000) (hlab : ∀ n, n ∈ G.nodes → n.labels.length ≤ 2000000) :
    Calls Tryz.prog 16 #[.pointer (some ⟨p, 0, none⟩), .slice B n2 c2] w (NumsIs (labeledG G q) w) := by
  have HST := Lib.hid hst
  have HQ := Lib.hid hq
  have HF := Lib.hid hF
  have HLB := Lib.hid hlab
  obtain ⟨AN, cN, hNe, _, hNr⟩ := hst.nodes
  obtain ⟨nN, HnN⟩ := name_itV G.nodes.length
  rw [HnN.out] at hNe hNr hgn
  subst hNe
  have HNR := Lib.hid (hNr.mono NoR.good (F' := fun b => b < w.heap.size) (fun b hb => by have := hst.loc; omega))
  have hps := Lib.hid (show p < w.heap.size from blk_lt hst.blk)
  clear hst hq hF hlab hNr
  have x0 : w.cell? ⟨p, 0, none⟩ = some (.slice AN nN cN) := Lib.cell_of_heap HST.out.blk 0
  go_enter Tryz.func16, Tryz.ntmps16
  go_wp2_with fail
  clear x0
  go_loopw [5, 13] (fun s5 s13 wx => ∃ (k : Nat) (ids : List Int), k ≤ nN ∧ s13 = .int .i64 (k : Nat) ∧ ids = labeledG ⟨G.nodes.take k, []⟩ q ∧ Hid (NumsM w ids s5 wx)) (fun _ s13 _ => nN - (intOf s13).toNat)
  case atStart => exact ⟨0, [], by omega, rfl, by simp [labeledG], Lib.hid ⟨Below.refl _ _, SOwn.nil ..⟩⟩
  case round =>
    obtain ⟨k, ids, hk, rfl, hids, hM⟩ := hrel
    have HIDS := Lib.hid hids
    clear hids
    by_cases hlt : k < nN
    · obtain ⟨x, hx⟩ : ∃ x, G.nodes[k]? = some x := ⟨G.nodes[k]'(by rw [HnN.out]; exact hlt), List.getElem?_eq_getElem _⟩
      have HX := Lib.hid hx
      have hxl := HLB.out x (List.mem_of_getElem? hx)
      obtain ⟨ad, A1, d1, A2, d2, rfl, hFa, hNo, hl1, hl2, q0, q1, q2⟩ := nodesAt (HNR.out.under NoR.good hM.out.below (fun b hb => hb)) hx
      have HL1 := Lib.hid hl1
      obtain ⟨id, Hxid⟩ := name_itV x.id
      obtain ⟨m1, Hm1⟩ := name_itV x.labels.length
      obtain ⟨m2, Hm2⟩ := name_itV x.props.length
      rw [Hxid.out] at q0
      rw [Hm1.out] at q1 HL1 hxl
      rw [Hm2.out] at q2
      clear hx hFa hNo hl1 hl2
      obtain ⟨zn, Hzn⟩ := name_itV wr.heap.size
      obtain ⟨w2, HW2⟩ := name_itV (wr.alloc (.cells #[.int .i64 id, .slice A1 m1 d1, .slice A2 m2 d2] 38))
      have HB2 := Lib.hid (show Below wr.heap.size wr w2 from by rw [← HW2.out]; exact (Below.refl _ _).alloc (Nat.le_refl _) _)
      have HK2 := Lib.hid (show w2.heap[zn]? = some (.cells #[.int .i64 id, .slice A1 m1 d1, .slice A2 m2 d2] 38 (0, 0)) from by rw [← HW2.out, ← Hzn.out]; exact heap_alloc_new wr _)
      have HM2 := Lib.hid (hM.out.on HB2.out)
      have hcl := Lib.hid (contM_any q x.labels zn (fun b => b < w.heap.size) F A1 B m1 d1 n2 c2 w2 (HL1.out.under TxR.good HB2.out (fun b hb => Nat.lt_of_lt_of_le hb hM.out.below.size)) (by omega) (Lib.cell_of_heap HK2.out 1) (HQ.out.under TxR.good HM2.out.below HF.out) hn2)
      obtain ⟨r, HR⟩ := name_itV (allB q x.labels)
      rw [HR.out] at hcl
      have e1 : (0 : Int) ≤ k := by omega
      have e2 : (k : Int) < nN := by omega
      have w1 : IntKind.i64.wrap ((k : Int) + 1) = (k : Int) + 1 := IntWalk.i64_in _ (by omega)
      clear hM
      go_upto_region 5 with fail
      rw [Hzn.out, HW2.out]
      clear q0 q1 q2
      go_wp2_with fail
      refine hcl.out.mono ?_
      rintro e wb ⟨rfl, rfl⟩
      have HMORE := Lib.hid (show labeledG ⟨G.nodes.take (k + 1), []⟩ q = labeledG ⟨G.nodes.take k, []⟩ q ++ (if r = true then [id] else []) from by
        unfold labeledG
        simp only [take_oneMore HX.out, List.filter_append, List.map_append]
        congr 1
        rw [← HR.out, ← Hxid.out]
        by_cases h : allB q x.labels = true
        · simp [h]
        · simp [h])
      cases r with
      | false =>
        go_wp2_with fail
        go_roundw
        case rel => exact ⟨k + 1, ids, by omega, by go_num, by rw [HMORE.out, HIDS.out]; simp, HM2⟩
        case measure => simp [intOf]; omega
      | true =>
        have hidl : ids.length ≤ nN := by
          rw [HIDS.out]
          unfold labeledG
          rw [List.length_map]
          refine Nat.le_trans (List.length_filter_le _ _) ?_
          simp only [List.length_take]
          rw [HnN.out]
          exact Nat.min_le_right _ _
        obtain ⟨A3, c3, hs3⟩ := HM2.out.own.form
        subst hs3
        obtain ⟨cs, hrow, h6, hFw, hr⟩ := HM2.out.own
        have HH6 := Lib.hid (And.intro h6 (And.intro hFw hr))
        obtain ⟨n3, Hn3⟩ := name_itV ids.length
        rw [Hn3.out] at hrow hidl
        have HROW := Lib.hid hrow
        have b0 : wb.cell? ⟨zn, 0, none⟩ = some (.int .i64 id) := Lib.cell_of_heap HK2.out 0
        clear h6 hFw hr hrow
        rw [Hn3.out]
        go_wp2_with (at_builtin; refine app_new rfl _ _ 42 rfl 0 2 (.int .i64 0) 1 8 Tryz.underlying42 infoI64 rfl (by decide) (.slice A3 n3 c3) n3 (flatC cs n3) rfl HROW.out (Nat.zero_le _) #[.int .i64 id] 1 1 rfl rfl (one_int _ _) (by omega) (by omega) (by decide) ?_; intro g4 cp4 w4 ho4 hg4 hl4; have HO4 := Lib.hid ho4; have HG4 := Lib.hid hg4; have HL4 := Lib.hid hl4; clear ho4 hg4 hl4)
        go_roundw
        case rel =>
          refine ⟨k + 1, ids ++ [id], by omega, by go_num, by rw [HMORE.out, HIDS.out]; simp, Lib.hid ?_⟩
          obtain ⟨h6, hFw, hr⟩ := HH6.out
          have ho := HO4.out
          have hg := HG4.out
          have hl := HL4.out
          rw [← Hn3.out] at ho hg hl ⊢
          refine NumsM.more HM2.out.below h6 hr hFw ho hg hl ?_
          exact (ho.lt g4 rfl).2
        case measure => simp [intOf]; omega
    · have hke : nN = k := by omega
      subst hke
      have HR := Lib.hid (show ids = labeledG G q from by
        rw [HIDS.out]
        unfold labeledG
        rw [List.take_of_length_le (by rw [HnN.out]; exact Nat.le_refl _)])
      have hid := HR.out
      obtain ⟨A, c, hs⟩ := hM.out.own.form
      subst hs
      clear hid
      go_wp2_with fail
      go_ret
      rw [← HR.out]
      exact ⟨A, c, rfl, hM.out.below, hM.out.own.rd IxR.good |>.rd⟩
end Go.Proofs.YtmhjbicbdahllaaGreatDoor
