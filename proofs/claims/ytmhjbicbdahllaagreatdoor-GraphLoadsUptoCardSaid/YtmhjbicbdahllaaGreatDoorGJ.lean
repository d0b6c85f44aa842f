/- 'Prop': a property of a node or an edge. -/
import Derived.Test.YtmhjbicbdahllaaGreatDoorGI
import Derived.BigQuiet
namespace Go.Proofs.YtmhjbicbdahllaaGreatDoor
open Go Go.RowKit Go.Maps Go.WideMaps

theorem place_get {K : Type} [DecidableEq K] {ks : List K} {k : K} (h : k ∈ ks) : ks[place ks k]? = some k := by
  unfold place
  have hl := List.idxOf_lt_length_of_mem h
  rw [List.getElem?_eq_getElem hl, List.getElem_idxOf]
/-- The place of a number. -/
theorem PlaceAt.look {w : World} {m : Nat} {ids : List Int} (h : PlaceAt w m ids) {x : Int} (hx : VI x) :
    ∃ q : Int, (Instr.lookup 63 (.map (some m)) (.int .i64 x) true).run Tryz.prog w = .ok (.tuple #[.int .i64 q, .bool (inB ids x)]) w ∧ (x ∈ ids → ∃ i : Nat, q = i ∧ ids[i]? = some x) := by
  obtain ⟨D, h1, _, h2⟩ := h
  obtain ⟨v, ps, hrun, hv⟩ := h1.look_ok lawI Tryz.underlying63 (z := .int .i64 0) (by kernel_rfl) (zd := .lit (.int .i64 0)) (zp := []) (plainElem_int Tryz.underlying3 (by decide)) (keyOf_int_mk Tryz.underlying2 hx)
  obtain ⟨a, rfl, hz, _⟩ := plainElem_int_inv Tryz.underlying3 hv
  injection hz with hz _
  obtain ⟨g1, g2⟩ := h2 x hx
  refine ⟨a, ?_, fun hm => ⟨place ids x, ?_, place_get hm⟩⟩
  · rw [hrun]
    show _ = Result.ok (Value.tuple #[_, .bool (decide (x ∈ ids))]) w
    rw [← g1]; rfl
  · have h3 := g2 hm
    have h4 : (DataW.lit (.int .i64 a) : DataW Unit) = .lit (.int .i64 ((place ids x : Nat) : Int)) := hz.symm.trans h3
    exact (Lit.int.inj (DataW.lit.inj h4)).2
/-- The properties of a node (kind 6), of an edge (kind 7). -/
def PropsOf (G : GraphD) (k id : Int) (l : List PairD) : Prop :=
  (k = 6 ∧ ∃ n, n ∈ G.nodes ∧ n.id = id ∧ l = n.props) ∨ (k = 7 ∧ ∃ e, e ∈ G.edges ∧ e.id = id ∧ l = e.props) ∨ ((k = 6 → id ∉ G.nodes.map NodeD.id) ∧ (k = 7 → id ∉ G.edges.map EdgeD.id) ∧ l = [])
def zeroV : Val := .mk 0 false 0 ⟨#[]⟩ ⟨#[]⟩ []
def FoundP (l : List PairD) (key : ByteArray) (r : Val) : Prop := (∃ p, p ∈ l ∧ p.key = key ∧ r = p.v) ∨ ((∀ p, p ∈ l → p.key ≠ key) ∧ r = zeroV)
def PropIs (G : GraphD) (k id : Int) (key : ByteArray) (w : World) (e : Ending) (w' : World) : Prop :=
  ∃ l r B cb, PropsOf G k id l ∧ FoundP l key r ∧ e = .returned (.agg (cellsV r (.slice B r.list.length cb))) ∧ Below w.heap.size w w' ∧ VRd w' (fun b => b < w'.heap.size) r (.agg (cellsV r (.slice B r.list.length cb)))
/-- Six cells stored. -/
theorem six_set {w : World} {b : Nat} {T : TypeId} {c0 c1 c2 c3 c4 c5 : Value} (hb : w.heap[b]? = some (.cells #[c0, c1, c2, c3, c4, c5] T (0, 0))) (v0 v1 v2 v3 v4 v5 : Value) :
    ((((((w.setCell ⟨b, 0, none⟩ v0).setCell ⟨b, 1, none⟩ v1).setCell ⟨b, 2, none⟩ v2).setCell ⟨b, 3, none⟩ v3).setCell ⟨b, 4, none⟩ v4).setCell ⟨b, 5, none⟩ v5).heap[b]? = some (.cells #[v0, v1, v2, v3, v4, v5] T (0, 0)) ∧
      Turn (fun q => q = b) w ((((((w.setCell ⟨b, 0, none⟩ v0).setCell ⟨b, 1, none⟩ v1).setCell ⟨b, 2, none⟩ v2).setCell ⟨b, 3, none⟩ v3).setCell ⟨b, 4, none⟩ v4).setCell ⟨b, 5, none⟩ v5) := by
  refine ⟨heap_setCell_same _ b 5 _ T _ (heap_setCell_same _ b 4 _ T _ (heap_setCell_same _ b 3 _ T _ (heap_setCell_same _ b 2 _ T _ (heap_setCell_same _ b 1 _ T _ (heap_setCell_same _ b 0 _ T _ hb))))), ?_⟩
  exact (((((((Turn.refl (fun q => q = b) w).setCell (p := ⟨b, 0, none⟩) (.inr rfl) _).setCell (p := ⟨b, 1, none⟩) (.inr rfl) _).setCell (p := ⟨b, 2, none⟩) (.inr rfl) _).setCell (p := ⟨b, 3, none⟩) (.inr rfl) _).setCell (p := ⟨b, 4, none⟩) (.inr rfl) _).setCell (p := ⟨b, 5, none⟩) (.inr rfl) _)
/-- What slot 7 holds: the properties. -/
def PropsAt (w : World) (B : Nat) (l : List PairD) (s : Value) : Prop := ∃ A n c, s = .slice A n c ∧ SRd 7 PaR w (fun b => b < B) l A n
set_option maxRecDepth 100000 in
set_option maxHeartbeats 4000000 in
theorem prop_any (G : GraphD) (lo p : Nat) (Ns Es : Value) (mh mt ma mid n0 : Nat) (k : Int) (t : Bool) (id : Int) (tx ex key : ByteArray) (sl : Value) (hsl : ∃ A n c, sl = .slice A n c) (w : World) (hst : StoreAt w lo p G Ns Es mh mt ma mid n0) (hid : VI id)
    (hfit : ∀ l, PropsOf G k id l → l.length ≤ 2000000 ∧ ∀ p, p ∈ l → FlatP p ∧ FitP p) (hgn : G.nodes.length ≤ 2000000 ∧ G.edges.length ≤ 2000000) :
    Calls Tryz.prog 22 #[.pointer (some ⟨p, 0, none⟩), .agg #[.int .i64 k, .bool t, .int .i64 id, .string tx, .string ex, sl], .string key] w (PropIs G k id key w) := by
  obtain ⟨A0, n1, c0, rfl⟩ := hsl
  have HFIT := Lib.hid hfit
  have HID := Lib.hid hid
  have HST0 := Lib.hid hst
  clear hst hid hfit
  obtain ⟨z, HZ⟩ := name_itV w.heap.size
  obtain ⟨w2, HW2⟩ := name_itV ((w.alloc (.cells #[.int .i64 k, .bool t, .int .i64 id, .string tx, .string ex, .slice A0 n1 c0] 55)).alloc (.cells #[.int .i64 0, .bool false, .int .i64 0, .string ⟨#[]⟩, .string ⟨#[]⟩, .slice none 0 0] 55))
  have HB2 := Lib.hid (show Below w.heap.size w w2 from by rw [← HW2.out]; exact two_new w _ _)
  have HST := Lib.hid (show StoreAt w2 lo p G Ns Es mh mt ma mid n0 from HST0.out.turn (Turn.of_below HB2.out) (fun b _ h1 h2 => by omega))
  have hs2 : w2.heap.size = z + 2 := by rw [← HW2.out, ← HZ.out]; simp
  have HS2 := Lib.hid hs2
  have HK0 := Lib.hid (show w2.heap[z]? = some (.cells #[.int .i64 k, .bool t, .int .i64 id, .string tx, .string ex, .slice A0 n1 c0] 55 (0, 0)) from by
    rw [← HW2.out, Below.heap_alloc _ _ _ (by rw [← HZ.out]; simp), ← HZ.out]
    exact heap_alloc_new w _)
  have HK1 := Lib.hid (show w2.heap[z + 1]? = some (.cells #[.int .i64 0, .bool false, .int .i64 0, .string ⟨#[]⟩, .string ⟨#[]⟩, .slice none 0 0] 55 (0, 0)) from by
    have := heap_alloc_new (w.alloc (.cells #[.int .i64 k, .bool t, .int .i64 id, .string tx, .string ex, .slice A0 n1 c0] 55)) (.cells #[.int .i64 0, .bool false, .int .i64 0, .string ⟨#[]⟩, .string ⟨#[]⟩, .slice none 0 0] 55)
    rw [HW2.out] at this
    simpa [HZ.out] using this)
  clear hs2
  obtain ⟨AN, cN, hNe, _, hNr⟩ := HST.out.nodes
  obtain ⟨AE, cE, hEe, _, hEr⟩ := HST.out.edges
  obtain ⟨nN, HnN⟩ := name_itV G.nodes.length
  obtain ⟨nE, HnE⟩ := name_itV G.edges.length
  rw [HnN.out] at hNe hNr hgn
  rw [HnE.out] at hEe hEr hgn
  subst hNe hEe
  obtain ⟨hgn1, hgn2⟩ := hgn
  have HNR := Lib.hid (hNr.keep NoR.good (w' := w2.drew) (fun _ _ => rfl))
  have HER := Lib.hid (hEr.keep EdR.good (w' := w2.drew.drew) (fun _ _ => rfl))
  obtain ⟨q6, hq6, hi6⟩ := ((show PlaceAt w2.drew ma (G.nodes.map NodeD.id) from HST.out.at_.turn (Turn.of_below (below_drewN (Below.refl w2.heap.size w2) 1)) (fun h => by have := HST.out.at_.lt; omega)).look HID.out)
  obtain ⟨q7, hq7, hi7⟩ := ((show PlaceAt w2.drew.drew mt (G.edges.map EdgeD.id) from HST.out.types.turn (Turn.of_below (below_drewN (Below.refl w2.heap.size w2) 2)) (fun h => by have := HST.out.types.lt; omega)).look HID.out)
  obtain ⟨b6, Hb6⟩ := name_itV (inB (G.nodes.map NodeD.id) id)
  obtain ⟨b7, Hb7⟩ := name_itV (inB (G.edges.map EdgeD.id) id)
  rw [Hb6.out] at hq6
  rw [Hb7.out] at hq7
  have HI6 := Lib.hid (show b6 = true → ∃ i x, q6 = ((i : Nat) : Int) ∧ i < nN ∧ G.nodes[i]? = some x ∧ x.id = id from fun h => by
    obtain ⟨i, e, hx⟩ := hi6 (by rw [← Hb6.out] at h; unfold inB at h; exact of_decide_eq_true h)
    rw [List.getElem?_map] at hx
    cases hy : G.nodes[i]? with
    | none => rw [hy] at hx; cases hx
    | some x =>
      rw [hy] at hx
      exact ⟨i, x, e, by rw [← HnN.out]; exact idx_lt hy, hy, by injection hx⟩)
  have HI7 := Lib.hid (show b7 = true → ∃ i x, q7 = ((i : Nat) : Int) ∧ i < nE ∧ G.edges[i]? = some x ∧ x.id = id from fun h => by
    obtain ⟨i, e, hx⟩ := hi7 (by rw [← Hb7.out] at h; unfold inB at h; exact of_decide_eq_true h)
    rw [List.getElem?_map] at hx
    cases hy : G.edges[i]? with
    | none => rw [hy] at hx; cases hx
    | some x =>
      rw [hy] at hx
      exact ⟨i, x, e, by rw [← HnE.out]; exact idx_lt hy, hy, by injection hx⟩)
  have HNO6 := Lib.hid (show b6 = false → id ∉ G.nodes.map NodeD.id from fun h hm => by rw [← Hb6.out, inB_yes hm] at h; cases h)
  have HNO7 := Lib.hid (show b7 = false → id ∉ G.edges.map EdgeD.id from fun h hm => by rw [← Hb7.out, inB_yes hm] at h; cases h)
  clear hi6 hi7 hNr hEr
  have x4 : w2.drew.cell? ⟨p, 4, none⟩ = some (.map (some ma)) := Lib.cell_of_heap HST.out.blk 4
  have y2 : w2.drew.cell? ⟨z, 2, none⟩ = some (.int .i64 id) := Lib.cell_of_heap HK0.out 2
  have x3 : w2.drew.drew.cell? ⟨p, 3, none⟩ = some (.map (some mt)) := Lib.cell_of_heap HST.out.blk 3
  have y2' : w2.drew.drew.cell? ⟨z, 2, none⟩ = some (.int .i64 id) := Lib.cell_of_heap HK0.out 2
  go_enter Tryz.func22, Tryz.ntmps22
  go_upto_region 2 with fail
  rw [HZ.out, HW2.out]
  go_region
  go_upto_region 3 with fail
  clear x4 y2 hq6
  go_cut [29] (fun s29 wx => s29 = .bool (b6 && decide (k = 6)) ∧ wx = w2.drew)
  case first =>
    have y0 : w2.drew.cell? ⟨z, 0, none⟩ = some (.int .i64 k) := Lib.cell_of_heap HK0.out 0
    cases b6 with
    | false => go_wp2_with fail; go_meet; exact ⟨rfl, rfl⟩
    | true => go_wp2_with fail; go_meet; exact ⟨rfl, rfl⟩
  case rest =>
    obtain ⟨h29, rfl⟩ := hcut
    go_upto_if 29 with fail
    go_cut [7] (fun s7 wx => Hid (∃ l A n c, s7 = .slice A n c ∧ n = l.length ∧ SRd 7 PaR w2.drew (fun b => b < z) l A n ∧ ((k = 6 ∧ ∃ y, y ∈ G.nodes ∧ y.id = id ∧ l = y.props) ∨ ((k = 6 → id ∉ G.nodes.map NodeD.id) ∧ l = []))) ∧ wx = w2.drew)
    case first =>
      cases hb : (b6 && decide (k = 6)) with
      | true =>
        rw [hb] at h29
        subst h29
        rw [Bool.and_eq_true] at hb
        obtain ⟨i, x, rfl, hil, hx, hxid⟩ := HI6.out hb.1
        have h6 := of_decide_eq_true hb.2
        obtain ⟨ad, A1, d1, A2, d2, rfl, hFa, hNo, hl1, hl2, q0, q1, q2⟩ := nodesAt HNR.out hx
        have HL2 := Lib.hid hl2
        have HX := Lib.hid (And.intro hx (And.intro hxid h6))
        have x0 : w2.drew.cell? ⟨p, 0, none⟩ = some (.slice (some ad) nN cN) := Lib.cell_of_heap HST.out.blk 0
        have e1 : (0 : Int) ≤ i := by omega
        have e2 : (i : Int) < nN := by omega
        clear hx hxid hl1 hl2 hNo hFa hb h6 q0 q1
        go_wp2_with fail
        go_meet
        exact ⟨Lib.hid ⟨x.props, A2, _, d2, rfl, rfl, HL2.out.mono PaR.good (fun b hb => by have := HST0.out.loc; have := HZ.out; omega), .inl ⟨HX.out.2.2, x, List.mem_of_getElem? HX.out.1, HX.out.2.1, rfl⟩⟩, rfl⟩
      | false =>
        rw [hb] at h29
        subst h29
        have HNN := Lib.hid (show k = 6 → id ∉ G.nodes.map NodeD.id from fun h6 => by
          refine HNO6.out ?_
          rw [decide_eq_true h6, Bool.and_true] at hb
          exact hb)
        clear hb
        go_wp2_with fail
        go_meet
        exact ⟨Lib.hid ⟨[], none, 0, 0, rfl, rfl, SRd.nil .., .inr ⟨HNN.out, rfl⟩⟩, rfl⟩
    case rest =>
      obtain ⟨h7, rfl⟩ := hcut
      obtain ⟨l6, A6, n6, c6, rfl, hn6, hl6, hr6⟩ := h7.out
      have HN6 := Lib.hid hn6
      have HL6 := Lib.hid hl6
      have HR6 := Lib.hid hr6
      clear h29 h7 hn6 hl6 hr6
      go_upto_region 5 with fail
      go_region
      go_upto_region 6 with fail
      clear x3 y2' hq7
      go_cut [53] (fun s53 wx => s53 = .bool (b7 && decide (k = 7)) ∧ wx = w2.drew.drew)
      case first =>
        have y0 : w2.drew.drew.cell? ⟨z, 0, none⟩ = some (.int .i64 k) := Lib.cell_of_heap HK0.out 0
        cases b7 with
        | false => go_wp2_with fail; go_meet; exact ⟨rfl, rfl⟩
        | true => go_wp2_with fail; go_meet; exact ⟨rfl, rfl⟩
      case rest =>
        obtain ⟨h53, rfl⟩ := hcut
        go_upto_if 53 with fail
        go_cut [7] (fun s7 wx => Hid (∃ l A n c, s7 = .slice A n c ∧ n = l.length ∧ SRd 7 PaR w2 (fun b => b < z) l A n ∧ PropsOf G k id l) ∧ wx = w2.drew.drew)
        case first =>
          cases hb : (b7 && decide (k = 7)) with
          | true =>
            rw [hb] at h53
            subst h53
            rw [Bool.and_eq_true] at hb
            obtain ⟨i, x, rfl, hil, hx, hxid⟩ := HI7.out hb.1
            have h7 := of_decide_eq_true hb.2
            obtain ⟨ad, A2, d2, rfl, hFa, hEd, hl2, q0, q1, q2, q3, q4⟩ := edgesAt HER.out hx
            have HL2 := Lib.hid hl2
            have HX := Lib.hid (And.intro hx (And.intro hxid h7))
            have x1 : w2.drew.drew.cell? ⟨p, 1, none⟩ = some (.slice (some ad) nE cE) := Lib.cell_of_heap HST.out.blk 1
            have e1 : (0 : Int) ≤ i := by omega
            have e2 : (i : Int) < nE := by omega
            clear hx hxid hl2 hEd hFa hb h7 q0 q1 q2 q3
            go_wp2_with fail
            go_meet
            exact ⟨Lib.hid ⟨x.props, A2, _, d2, rfl, rfl, (HL2.out.mono PaR.good (fun b hb => by have := HST0.out.loc; have := HZ.out; omega)).keep PaR.good (fun _ _ => rfl), .inr (.inl ⟨HX.out.2.2, x, List.mem_of_getElem? HX.out.1, HX.out.2.1, rfl⟩)⟩, rfl⟩
          | false =>
            rw [hb] at h53
            subst h53
            have HNN := Lib.hid (show k = 7 → id ∉ G.edges.map EdgeD.id from fun h6 => by
              refine HNO7.out ?_
              rw [decide_eq_true h6, Bool.and_true] at hb
              exact hb)
            clear hb
            go_wp2_with fail
            go_meet
            refine ⟨Lib.hid ⟨l6, A6, n6, c6, rfl, HN6.out, HL6.out.keep PaR.good (fun _ _ => rfl), ?_⟩, rfl⟩
            rcases HR6.out with h | h
            · exact .inl h
            · exact .inr (.inr ⟨h.1, HNN.out, h.2⟩)
        case rest =>
          obtain ⟨h7, rfl⟩ := hcut
          obtain ⟨l, A7, n7, c7, rfl, hn7, hl7, hr7⟩ := h7.out
          obtain ⟨hl7n, hfit⟩ := HFIT.out l hr7
          have HL := Lib.hid hl7
          have HR := Lib.hid hr7
          have HFL := Lib.hid hfit
          have HLen := Lib.hid hn7
          rw [← hn7] at hl7n
          clear h53 h7 hl7 hr7 hfit hn7 HL6 HN6 HR6
          go_upto_region 8 with fail
          go_wp2_with fail
          go_loopw [64] (fun s64 wx => ∃ j : Nat, j ≤ n7 ∧ s64 = .int .i64 (j : Nat) ∧ Hid (Below (z + 2) w2 wx ∧ ∀ q, q ∈ l.take j → q.key ≠ key)) (fun s64 _ => n7 - (intOf s64).toNat)
          case atStart => exact ⟨0, by omega, rfl, Lib.hid ⟨below_drewN (Below.refl _ _) 2, fun q hq => by simp at hq⟩⟩
          case round =>
            obtain ⟨j, hj, rfl, hM⟩ := hrel
            by_cases hlt : j < n7
            · obtain ⟨x, hx⟩ : ∃ x, l[j]? = some x := ⟨l[j]'(by rw [← HLen.out]; exact hlt), List.getElem?_eq_getElem _⟩
              have HX := Lib.hid hx
              obtain ⟨ad, s, rfl, hFa, hv, q0, q1, q2, q3, q4, q5, q6⟩ := pairsAt (HL.out.under PaR.good hM.out.1 (fun b hb => by omega)) hx
              obtain ⟨B, cb, hu, _, _⟩ := hv.inv
              injection hu with hu
              obtain rfl : s = .slice B x.v.list.length cb := by
                have := congrArg (fun a : Array Value => a[5]?) hu
                simpa [cellsV] using this
              have HV := Lib.hid hv
              have hfx := Lib.hid (HFL.out x (List.mem_of_getElem? hx))
              clear hx hFa hv hu
              obtain ⟨lx, Hlx⟩ := name_itV x.v.list.length
              rw [Hlx.out] at q6 HV
              obtain ⟨ky, Hky⟩ := name_itV x.key
              rw [Hky.out] at q0
              obtain ⟨zn, Hzn⟩ := name_itV wr.heap.size
              have hzn : z + 2 ≤ zn := by rw [← Hzn.out, ← HS2.out]; exact hM.out.1.size
              obtain ⟨w5, HW5⟩ := name_itV (wr.alloc (.cells #[.string ky, .int .i64 x.v.kind, .bool x.v.truth, .int .i64 x.v.num, .string x.v.text, .string x.v.extra, .slice B lx cb] 57))
              have HB5 := Lib.hid (show Below wr.heap.size wr w5 from by rw [← HW5.out]; exact (Below.refl _ _).alloc (Nat.le_refl _) _)
              have HK5 := Lib.hid (show w5.heap[zn]? = some (.cells #[.string ky, .int .i64 x.v.kind, .bool x.v.truth, .int .i64 x.v.num, .string x.v.text, .string x.v.extra, .slice B lx cb] 57 (0, 0)) from by rw [← HW5.out, ← Hzn.out]; exact heap_alloc_new wr _)
              have e1 : (0 : Int) ≤ j := by omega
              have e2 : (j : Int) < n7 := by omega
              have w1 : IntKind.i64.wrap ((j : Int) + 1) = (j : Int) + 1 := IntWalk.i64_in _ (by omega)
              have HB52 := Lib.hid (show Below (z + 2) w2 w5 from hM.out.1.trans (HB5.out.mono (by rw [Hzn.out]; exact hzn)))
              have HM := Lib.hid hM.out.2
              clear hM
              have d0 : w5.cell? ⟨zn, 0, none⟩ = some (.string ky) := Lib.cell_of_heap HK5.out 0
              go_upto_region 11 with fail
              rw [HW5.out, Hzn.out]
              clear q0 q1 q2 q3 q4 q5 q6
              by_cases hky : ky = key
              · subst hky
                have hcp := Lib.hid (copied_any x.v hfx.out.1 hfx.out.2.2 (fun b => b < z) _ w5 (fun b hb => by have := HB52.out.size; have := HS2.out; omega) (HV.out.under HB5.out (fun b hb => by rw [Hzn.out]; omega)))
                unfold cellsV at hcp
                have d1 : w5.cell? ⟨zn, 1, none⟩ = some (.int .i64 x.v.kind) := Lib.cell_of_heap HK5.out 1
                have d2 : w5.cell? ⟨zn, 2, none⟩ = some (.bool x.v.truth) := Lib.cell_of_heap HK5.out 2
                have d3 : w5.cell? ⟨zn, 3, none⟩ = some (.int .i64 x.v.num) := Lib.cell_of_heap HK5.out 3
                have d4 : w5.cell? ⟨zn, 4, none⟩ = some (.string x.v.text) := Lib.cell_of_heap HK5.out 4
                have d5 : w5.cell? ⟨zn, 5, none⟩ = some (.string x.v.extra) := Lib.cell_of_heap HK5.out 5
                have d6 : w5.cell? ⟨zn, 6, none⟩ = some (.slice B lx cb) := Lib.cell_of_heap HK5.out 6
                go_wp2_with fail
                refine hcp.out.mono ?_
                rintro e w6 ⟨B9, cb9, rfl, hb6, hv6⟩
                have hk6 := (hb6.block (z + 1) (by have := HB52.out.size; have := HS2.out; omega)).trans ((HB52.out.block (z + 1) (by omega)).trans HK1.out)
                have HK6 := Lib.hid hk6
                have HV6 := Lib.hid hv6
                have HB6 := Lib.hid hb6
                have r0 : w6.cell? ⟨z + 1, 0, none⟩ = some (.int .i64 0) := Lib.cell_of_heap hk6 0
                have y0 : w6.frozen? ⟨z + 1, 0, none⟩ = false := Lib.frozen_of_heap hk6 0
                have r1 : w6.cell? ⟨z + 1, 1, none⟩ = some (.bool false) := Lib.cell_of_heap hk6 1
                have y1 : w6.frozen? ⟨z + 1, 1, none⟩ = false := Lib.frozen_of_heap hk6 1
                have r2 : w6.cell? ⟨z + 1, 2, none⟩ = some (.int .i64 0) := Lib.cell_of_heap hk6 2
                have y2 : w6.frozen? ⟨z + 1, 2, none⟩ = false := Lib.frozen_of_heap hk6 2
                have r3 : w6.cell? ⟨z + 1, 3, none⟩ = some (.string ⟨#[]⟩) := Lib.cell_of_heap hk6 3
                have y3 : w6.frozen? ⟨z + 1, 3, none⟩ = false := Lib.frozen_of_heap hk6 3
                have r4 : w6.cell? ⟨z + 1, 4, none⟩ = some (.string ⟨#[]⟩) := Lib.cell_of_heap hk6 4
                have y4 : w6.frozen? ⟨z + 1, 4, none⟩ = false := Lib.frozen_of_heap hk6 4
                have r5 : w6.cell? ⟨z + 1, 5, none⟩ = some (.slice none 0 0) := Lib.cell_of_heap hk6 5
                have y5 : w6.frozen? ⟨z + 1, 5, none⟩ = false := Lib.frozen_of_heap hk6 5
                clear hk6 hv6 hb6 d0 d1 d2 d3 d4 d5 d6
                unfold cellsV
                go_wp2_with fail
                obtain ⟨hz9, ht9⟩ := six_set HK6.out (.int .i64 x.v.kind) (.bool x.v.truth) (.int .i64 x.v.num) (.string x.v.text) (.string x.v.extra) (.slice B9 x.v.list.length cb9)
                obtain ⟨W9, HW9⟩ := name_itV ((((((w6.setCell ⟨z + 1, 0, none⟩ (.int .i64 x.v.kind)).setCell ⟨z + 1, 1, none⟩ (.bool x.v.truth)).setCell ⟨z + 1, 2, none⟩ (.int .i64 x.v.num)).setCell ⟨z + 1, 3, none⟩ (.string x.v.text)).setCell ⟨z + 1, 4, none⟩ (.string x.v.extra)).setCell ⟨z + 1, 5, none⟩ (.slice B9 x.v.list.length cb9))
                rw [HW9.out] at hz9 ht9 ⊢
                have g0 : W9.cell? ⟨z + 1, 0, none⟩ = some (.int .i64 x.v.kind) := Lib.cell_of_heap hz9 0
                have g1 : W9.cell? ⟨z + 1, 1, none⟩ = some (.bool x.v.truth) := Lib.cell_of_heap hz9 1
                have g2 : W9.cell? ⟨z + 1, 2, none⟩ = some (.int .i64 x.v.num) := Lib.cell_of_heap hz9 2
                have g3 : W9.cell? ⟨z + 1, 3, none⟩ = some (.string x.v.text) := Lib.cell_of_heap hz9 3
                have g4 : W9.cell? ⟨z + 1, 4, none⟩ = some (.string x.v.extra) := Lib.cell_of_heap hz9 4
                have g5 : W9.cell? ⟨z + 1, 5, none⟩ = some (.slice B9 x.v.list.length cb9) := Lib.cell_of_heap hz9 5
                refine bodyPost_ret (v := .agg #[.int .i64 x.v.kind, .bool x.v.truth, .int .i64 x.v.num, .string x.v.text, .string x.v.extra, .slice B9 x.v.list.length cb9]) (by simp [results, Tryz.results22, go_sem, g0, g1, g2, g3, g4, g5]) rfl ⟨l, x.v, B9, cb9, HR.out, .inl ⟨x, List.mem_of_getElem? HX.out, Hky.out, rfl⟩, rfl, ?_, ?_⟩
                · exact (HB2.out.trans ((HB52.out.trans (HB6.out.mono (by have := HB52.out.size; have := HS2.out; omega))).mono (by have := HZ.out; omega))).trans (ht9.below (fun i _ h => by have := HZ.out; omega) (by have := HZ.out; have := HB2.out.size; have := HB52.out.size; have := HB6.out.size; omega))
                · refine (HV6.out.keep (fun pp hp => ht9.cell hp.2 (fun h => by have := hp.1; have := HB52.out.size; have := HS2.out; omega))).mono (fun b hb => Nat.lt_of_lt_of_le hb.2 ht9.size)
              · have t1 := strV_ne hky
                have HKY := Lib.hid hky
                clear hky
                go_wp2_with fail
                go_roundw
                case rel =>
                  refine ⟨j + 1, by omega, by go_num, Lib.hid ⟨HB52.out, fun q hq => ?_⟩⟩
                  rw [take_oneMore HX.out] at hq
                  rcases List.mem_append.1 hq with hq | hq
                  · exact HM.out q hq
                  · rw [List.mem_singleton.1 hq, Hky.out]; exact HKY.out
                case measure => simp [intOf]; omega
            · have hke : n7 = j := by omega
              subst hke
              have HM := Lib.hid (show ∀ q, q ∈ l → q.key ≠ key from fun q hq => hM.out.2 q (by rw [List.take_of_length_le (by rw [HLen.out]; exact Nat.le_refl _)]; exact hq))
              have HBr := Lib.hid hM.out.1
              clear hM hlt
              have hk1 := (HBr.out.block (z + 1) (by omega)).trans HK1.out
              have HKr := Lib.hid hk1
              have r0 : wr.cell? ⟨z + 1, 0, none⟩ = some (.int .i64 0) := Lib.cell_of_heap hk1 0
              have y0 : wr.frozen? ⟨z + 1, 0, none⟩ = false := Lib.frozen_of_heap hk1 0
              have r1 : wr.cell? ⟨z + 1, 1, none⟩ = some (.bool false) := Lib.cell_of_heap hk1 1
              have y1 : wr.frozen? ⟨z + 1, 1, none⟩ = false := Lib.frozen_of_heap hk1 1
              have r2 : wr.cell? ⟨z + 1, 2, none⟩ = some (.int .i64 0) := Lib.cell_of_heap hk1 2
              have y2 : wr.frozen? ⟨z + 1, 2, none⟩ = false := Lib.frozen_of_heap hk1 2
              have r3 : wr.cell? ⟨z + 1, 3, none⟩ = some (.string ⟨#[]⟩) := Lib.cell_of_heap hk1 3
              have y3 : wr.frozen? ⟨z + 1, 3, none⟩ = false := Lib.frozen_of_heap hk1 3
              have r4 : wr.cell? ⟨z + 1, 4, none⟩ = some (.string ⟨#[]⟩) := Lib.cell_of_heap hk1 4
              have y4 : wr.frozen? ⟨z + 1, 4, none⟩ = false := Lib.frozen_of_heap hk1 4
              have r5 : wr.cell? ⟨z + 1, 5, none⟩ = some (.slice none 0 0) := Lib.cell_of_heap hk1 5
              have y5 : wr.frozen? ⟨z + 1, 5, none⟩ = false := Lib.frozen_of_heap hk1 5
              clear hk1
              go_wp2_with fail
              obtain ⟨hz9, ht9⟩ := six_set HKr.out (.int .i64 0) (.bool false) (.int .i64 0) (.string ⟨#[]⟩) (.string ⟨#[]⟩) (.slice none 0 0)
              obtain ⟨W9, HW9⟩ := name_itV ((((((wr.setCell ⟨z + 1, 0, none⟩ (.int .i64 0)).setCell ⟨z + 1, 1, none⟩ (.bool false)).setCell ⟨z + 1, 2, none⟩ (.int .i64 0)).setCell ⟨z + 1, 3, none⟩ (.string ⟨#[]⟩)).setCell ⟨z + 1, 4, none⟩ (.string ⟨#[]⟩)).setCell ⟨z + 1, 5, none⟩ (.slice none 0 0))
              rw [HW9.out] at hz9 ht9 ⊢
              have g0 : W9.cell? ⟨z + 1, 0, none⟩ = some (.int .i64 0) := Lib.cell_of_heap hz9 0
              have g1 : W9.cell? ⟨z + 1, 1, none⟩ = some (.bool false) := Lib.cell_of_heap hz9 1
              have g2 : W9.cell? ⟨z + 1, 2, none⟩ = some (.int .i64 0) := Lib.cell_of_heap hz9 2
              have g3 : W9.cell? ⟨z + 1, 3, none⟩ = some (.string ⟨#[]⟩) := Lib.cell_of_heap hz9 3
              have g4 : W9.cell? ⟨z + 1, 4, none⟩ = some (.string ⟨#[]⟩) := Lib.cell_of_heap hz9 4
              have g5 : W9.cell? ⟨z + 1, 5, none⟩ = some (.slice none 0 0) := Lib.cell_of_heap hz9 5
              refine bodyPost_ret (v := .agg #[.int .i64 0, .bool false, .int .i64 0, .string ⟨#[]⟩, .string ⟨#[]⟩, .slice none 0 0]) (by simp [results, Tryz.results22, go_sem, g0, g1, g2, g3, g4, g5]) rfl ⟨l, zeroV, none, 0, HR.out, .inr ⟨HM.out, rfl⟩, rfl, ?_, ?_⟩
              · exact (HB2.out.trans (HBr.out.mono (by have := HZ.out; omega))).trans (ht9.below (fun i _ h => by have := HZ.out; omega) (by have := HB2.out.size; have := HBr.out.size; omega))
              · exact VRd.of_list (Nat.le_refl _) ⟨rfl, fun h => absurd h (Nat.lt_irrefl _)⟩
end Go.Proofs.YtmhjbicbdahllaaGreatDoor
