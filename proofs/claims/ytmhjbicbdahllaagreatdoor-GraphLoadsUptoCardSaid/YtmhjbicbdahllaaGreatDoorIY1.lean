/- GraphLoads: copies, sorted graphs, equal graphs -/
import Derived.Test.YtmhjbicbdahllaaGreatDoorGL
import Derived.Test.YtmhjbicbdahllaaGreatDoorGF
import Derived.Test.YtmhjbicbdahllaaGreatDoorGJ
import Derived.Test.YtmhjbicbdahllaaGreatDoorGK
import Derived.Deep.RegionHeld3
import Derived.Test.YtmhjbicbdahllaaGreatDoorGI
import Derived.Test.YtmhjbicbdahllaaGreatDoorVG
import Derived.Test.YtmhjbicbdahllaaGreatDoorBulk
import Derived.Deep.Slices
import Derived.Lib.SmallJoins
import Derived.Test.YtmhjbicbdahllaaGreatDoorU0
import Derived.Test.YtmhjbicbdahllaaGreatDoorGB
import Derived.Test.YtmhjbicbdahllaaGreatDoorGA
import Derived.Laws.AppendOwnNone
import Derived.Test.YtmhjbicbdahllaaGreatDoorG1
namespace Go.Proofs.YtmhjbicbdahllaaGreatDoor
open Go Go.RowKit Go.Maps Go.WideMaps

theorem flatI (zs : List Int) : flatC (fun i => #[.int .i64 (zs.getD i 0)]) zs.length = zs.map (Value.int .i64) := by
  have h6 : ∀ i, i < zs.length → ((fun i => #[Value.int .i64 (zs.getD i 0)]) i).size = 1 := fun _ _ => rfl
  apply List.ext_getElem?
  intro i
  by_cases hi : i < zs.length
  · have h := flatC_at (sz := 1) (j := 0) h6 hi (by omega)
    rw [Nat.mul_one, Nat.add_zero] at h
    rw [h, List.getElem?_map, List.getElem?_eq_getElem hi]
    simp [List.getD, List.getElem?_eq_getElem hi]
  · rw [List.getElem?_eq_none (by rw [flatC_length h6]; omega), List.getElem?_eq_none (by rw [List.length_map]; omega)]
theorem ints_rd {w : World} {base : Nat} {e : TypeId} {v : Value} {zs : List Int} (h : w.ownsInts base e .i64 v zs) : ∃ A c, v = .slice A zs.length c ∧ SRd 1 IxR w (fun b => b < w.heap.size) zs A zs.length := by
  have hs : SOwn e 1 IxR w (fun b => b < w.heap.size) zs v := ⟨fun i => #[.int .i64 (zs.getD i 0)], by
    rw [flatI]
    refine ⟨h.1.1, ?_⟩
    rcases h.1.2 with h1 | ⟨g, cap, cur, h1, _, h2⟩
    · exact .inl h1
    · exact .inr ⟨g, cap, cur, h1, Nat.zero_le _, h2⟩, fun _ _ => rfl, fun g hg => (h.1.lt g hg).2, fun i x hx => by
    show (#[Value.int .i64 (zs.getD i 0)] : Array Value) = #[.int .i64 x]
    simp [List.getD, hx]⟩
  obtain ⟨A, c, e1, _, h2⟩ := hs.rd IxR.good
  exact ⟨A, c, e1, h2⟩
theorem lits_inj {H : Type} {q : IntKind} {l m : List Int} (h : (Go.ChangeShapes.lits q l : List (DataW H)) = Go.ChangeShapes.lits q m) : l = m := by
  unfold Go.ChangeShapes.lits at h
  exact (List.map_inj_right (fun a b e => (Lit.int.inj (DataW.lit.inj e)).2)).1 h
def typeOk (q : List ByteArray) (e : EdgeD) : Bool := q.isEmpty || inB q e.type
def hopIds (es : List EdgeD) (q : List ByteArray) (l : List Nat) : List Int := l.filterMap fun i => (es[i]?).bind fun e => if typeOk q e = true then some e.id else none
theorem hops_lt {es : List EdgeD} {a d : Int} {i : Nat} (h : i ∈ hopsG es a d) : i < es.length := by
  unfold hopsG at h
  exact List.mem_range.1 (List.mem_filter.1 h).1
theorem hops_len (es : List EdgeD) (a d : Int) : (hopsG es a d).length ≤ es.length := by
  unfold hopsG
  have := List.length_filter_le (fun i => (es[i]?.map fun e => hopB e a d).getD false) (List.range es.length)
  rw [List.length_range] at this
  exact this
set_option maxRecDepth 100000 in
set_option maxHeartbeats 4000000 in
theorem hops_any (G : GraphD) (a d : Int) (q : List ByteArray) (lo p : Nat) (Ns Es : Value) (mh mt ma mid n0 : Nat) (F : Nat → Prop) (B : Option Addr) (n2 c2 : Nat) (w : World) (hst : StoreAt w lo p G Ns Es mh mt ma mid n0) (hva : VI a) (hvd : VI d)
    (hF : ∀ b, F b → b < w.heap.size) (hq : SRd 1 TxR w F q B n2) (hn2 : n2 ≤ 1000000000) (hge : G.edges.length ≤ 2000000) :
    Calls Tryz.prog 19 #[.pointer (some ⟨p, 0, none⟩), .int .i64 a, .int .i64 d, .slice B n2 c2] w (NumsIs (hopIds G.edges q (hopsG G.edges a d)) w) := by
  have HST := Lib.hid hst
  have HQ := Lib.hid hq
  have HF := Lib.hid hF
  have hkey := litH_mk hva hvd
  obtain ⟨AE, cE, hEe, _, hEr⟩ := hst.edges
  obtain ⟨nE, HnE⟩ := name_itV G.edges.length
  rw [HnE.out] at hEe hEr hge
  subst hEe
  have HER := Lib.hid (hEr.mono EdR.good (F' := fun b => b < w.heap.size) (fun b hb => by have := hst.loc; omega))
  obtain ⟨D, hown, hat0⟩ := hst.hops
  have HAT := Lib.hid (hat0 a d hva hvd)
  have hn0 : n0 < maxLen := by have := hst.few; unfold maxLen; omega
  have hq2 := Lib.hid hq.1
  have x2 : w.cell? ⟨p, 2, none⟩ = some (.map (some mh)) := Lib.cell_of_heap hst.blk 2
  have HOWN := Lib.hid hown
  have HKEY := Lib.hid hkey
  clear hst hq hF hEr hown hat0 hva hvd hkey
  go_enter Tryz.func19, Tryz.ntmps19
  go_wp2_with (at_lookup; refine wpList_lookup_groups _ rfl _ _ 62 rfl 89 44 3 .i64 lawH Tryz.underlying62 (by kernel_rfl) mid mh n0 D rfl HOWN.out hn0 _ _ rfl HKEY.out ?_; intro v zs hat hoi _ _; have HZ : Hid (zs = natI (hopsG G.edges a d)) := Lib.hid (by have h1 := HAT.out; rw [hat, items_row hoi] at h1; exact lits_inj h1); obtain ⟨A9, c9, hv9, hrd9⟩ := ints_rd hoi; subst hv9; have HR9 := Lib.hid hrd9; clear hat hoi hrd9)
  obtain ⟨nz, Hnz⟩ := name_itV zs.length
  rw [Hnz.out] at HR9
  have hnz : nz ≤ 2000000 := by
    rw [← Hnz.out, HZ.out]
    unfold natI
    rw [List.length_map]
    exact Nat.le_trans (hops_len ..) (by rw [HnE.out]; exact hge)
  rw [Hnz.out]
  clear x2
  have HT0 := Lib.hid (show hopIds G.edges q [] = [] from rfl)
  go_wp2_with fail
  go_loopw [9, 22] (fun s9 s22 wx => ∃ (k : Nat) (ids : List Int), k ≤ nz ∧ s22 = .int .i64 (k : Nat) ∧ ids = hopIds G.edges q ((hopsG G.edges a d).take k) ∧ ids.length ≤ k ∧ Hid (NumsM w ids s9 wx)) (fun _ s22 _ => nz - (intOf s22).toNat)
  case atStart => exact ⟨0, [], by omega, rfl, by rw [List.take_zero]; exact HT0.out.symm, by simp, Lib.hid ⟨Below.refl _ _, SOwn.nil ..⟩⟩
  case round =>
    obtain ⟨k, ids, hk, rfl, hids, hidl, hM⟩ := hrel
    have HIDS := Lib.hid hids
    clear hids
    by_cases hlt : k < nz
    · obtain ⟨i, hi⟩ : ∃ i, (hopsG G.edges a d)[k]? = some i := ⟨(hopsG G.edges a d)[k]'(by
        have h := Hnz.out
        rw [HZ.out] at h
        unfold natI at h
        rw [List.length_map] at h
        omega), List.getElem?_eq_getElem _⟩
      have HI := Lib.hid hi
      have hil : i < nE := by rw [← HnE.out]; exact hops_lt (List.mem_of_getElem? hi)
      have hzi : zs[k]? = some (i : Int) := by
        rw [HZ.out]
        unfold natI
        rw [List.getElem?_map, hi]
        rfl
      obtain ⟨adz, rfl, _, z0⟩ := intAt (HR9.out.under IxR.good hM.out.below (fun b hb => hb)) hzi
      obtain ⟨x, hx⟩ : ∃ x, G.edges[i]? = some x := ⟨G.edges[i]'(by rw [HnE.out]; exact hil), List.getElem?_eq_getElem _⟩
      have HX := Lib.hid hx
      obtain ⟨ad, A2, d2, rfl, hFa, hEd, hl2, q0, q1, q2, q3, q4⟩ := edgesAt (HER.out.under EdR.good hM.out.below (fun b hb => hb)) hx
      clear hi hzi hx hFa hEd hl2
      obtain ⟨id, Hxid⟩ := name_itV x.id
      obtain ⟨src, Hsrc⟩ := name_itV x.src
      obtain ⟨dst, Hdst⟩ := name_itV x.dst
      obtain ⟨typ, Htyp⟩ := name_itV x.type
      obtain ⟨m2, Hm2⟩ := name_itV x.props.length
      rw [Hxid.out] at q0
      rw [Hsrc.out] at q1
      rw [Hdst.out] at q2
      rw [Htyp.out] at q3
      rw [Hm2.out] at q4
      have x1 : wr.cell? ⟨p, 1, none⟩ = some (.slice (some ad) nE cE) := (hM.out.below.cell (blk_lt HST.out.blk)).trans (Lib.cell_of_heap HST.out.blk 1)
      obtain ⟨zn, Hzn⟩ := name_itV wr.heap.size
      obtain ⟨w2, HW2⟩ := name_itV (wr.alloc (.cells #[.int .i64 id, .int .i64 src, .int .i64 dst, .string typ, .slice A2 m2 d2] 41))
      have HB2 := Lib.hid (show Below wr.heap.size wr w2 from by rw [← HW2.out]; exact (Below.refl _ _).alloc (Nat.le_refl _) _)
      have HK2 := Lib.hid (show w2.heap[zn]? = some (.cells #[.int .i64 id, .int .i64 src, .int .i64 dst, .string typ, .slice A2 m2 d2] 41 (0, 0)) from by rw [← HW2.out, ← Hzn.out]; exact heap_alloc_new wr _)
      have HM2 := Lib.hid (hM.out.on HB2.out)
      have hcl := Lib.hid (containsT_any q typ F B n2 c2 w2 (HQ.out.under TxR.good HM2.out.below HF.out) hn2)
      have HMORE := Lib.hid (show hopIds G.edges q ((hopsG G.edges a d).take (k + 1)) = hopIds G.edges q ((hopsG G.edges a d).take k) ++ (if typeOk q x = true then [id] else []) from by
        unfold hopIds
        rw [take_oneMore HI.out, List.filterMap_append]
        congr 1
        rw [← Hxid.out]
        by_cases h : typeOk q x = true
        · simp [HX.out, h]
        · simp [HX.out, h])
      have e1 : (0 : Int) ≤ k := by omega
      have e2 : (k : Int) < nz := by omega
      have e3 : (0 : Int) ≤ i := by omega
      have e4 : (i : Int) < nE := by omega
      have w1 : IntKind.i64.wrap ((k : Int) + 1) = (k : Int) + 1 := IntWalk.i64_in _ (by omega)
      clear hM
      go_upto_region 6 with fail
      rw [Hzn.out, HW2.out]
      clear q0 q1 q2 q3 q4 z0 x1
      have HTO := Lib.hid (show typeOk q x = (decide (n2 = 0) || inB q typ) from by
        unfold typeOk
        rw [Htyp.out]
        congr 1
        rw [hq2.out]
        cases q with
        | nil => rfl
        | cons y r => simp)
      obtain ⟨tk, HTK⟩ := name_itV (typeOk q x)
      rw [HTK.out] at HMORE HTO
      go_cut [41] (fun s41 wx => s41 = .bool tk ∧ wx = w2)
      case first =>
        have b3 : w2.cell? ⟨zn, 3, none⟩ = some (.string typ) := Lib.cell_of_heap HK2.out 3
        by_cases h0 : n2 = 0
        · have t0 : ((n2 : Int) == 0) = true := beq_iff_eq.2 (by omega)
          have HH0 := Lib.hid (show tk = true from by rw [HTO.out, decide_eq_true h0]; rfl)
          clear h0
          go_wp2_with fail
          go_meet
          exact ⟨by rw [HH0.out], rfl⟩
        · have t0 : ((n2 : Int) == 0) = false := beq_eq_false_iff_ne.2 (by omega)
          have HH0 := Lib.hid (show inB q typ = tk from by rw [HTO.out, decide_eq_false h0]; rfl)
          rw [HH0.out] at hcl
          clear h0
          go_wp2_with fail
          refine hcl.out.mono ?_
          rintro e wb ⟨rfl, rfl⟩
          go_wp2_with fail
          go_meet
          exact ⟨rfl, rfl⟩
      case rest =>
        obtain ⟨h41, rfl⟩ := hcut
        subst h41
        cases tk with
        | false =>
          go_wp2_with fail
          go_roundw
          case rel => exact ⟨k + 1, ids, by omega, by go_num, by rw [HMORE.out, HIDS.out]; simp, by omega, HM2⟩
          case measure => simp [intOf]; omega
        | true =>
          obtain ⟨A3, c3, hs3⟩ := HM2.out.own.form
          subst hs3
          obtain ⟨cs, hrow, h6, hFw, hr⟩ := HM2.out.own
          have HH6 := Lib.hid (And.intro h6 (And.intro hFw hr))
          obtain ⟨n3, Hn3⟩ := name_itV ids.length
          rw [Hn3.out] at hrow hidl
          have HROW := Lib.hid hrow
          have b0 : wc.cell? ⟨zn, 0, none⟩ = some (.int .i64 id) := Lib.cell_of_heap HK2.out 0
          clear h6 hFw hr hrow
          rw [Hn3.out]
          go_wp2_with (at_builtin; refine app_new rfl _ _ 42 rfl 0 2 (.int .i64 0) 1 8 Tryz.underlying42 infoI64 rfl (by decide) (.slice A3 n3 c3) n3 (flatC cs n3) rfl HROW.out (Nat.zero_le _) #[.int .i64 id] 1 1 rfl rfl (one_int _ _) (by omega) (by omega) (by decide) ?_; intro g4 cp4 w4 ho4 hg4 hl4; have HO4 := Lib.hid ho4; have HG4 := Lib.hid hg4; have HL4 := Lib.hid hl4; clear ho4 hg4 hl4)
          go_roundw
          case rel =>
            refine ⟨k + 1, ids ++ [id], by omega, by go_num, by rw [HMORE.out, HIDS.out]; simp, by rw [List.length_append, Hn3.out]; simp; omega, Lib.hid ?_⟩
            obtain ⟨h6, hFw, hr⟩ := HH6.out
            have ho := HO4.out
            have hg := HG4.out
            have hl := HL4.out
            rw [← Hn3.out] at ho hg hl ⊢
            refine NumsM.more HM2.out.below h6 hr hFw ho hg hl ?_
            exact (ho.lt g4 rfl).2
          case measure => simp [intOf]; omega
    · have hke : nz = k := by omega
      subst hke
      have HR := Lib.hid (show ids = hopIds G.edges q (hopsG G.edges a d) from by
        rw [HIDS.out, List.take_of_length_le]
        have h := Hnz.out
        rw [HZ.out] at h
        unfold natI at h
        rw [List.length_map] at h
        omega)
      obtain ⟨A, c, hs⟩ := hM.out.own.form
      subst hs
      go_wp2_with fail
      go_ret
      rw [← HR.out]
      exact ⟨A, c, rfl, hM.out.below, hM.out.own.rd IxR.good |>.rd⟩
end Go.Proofs.YtmhjbicbdahllaaGreatDoor

namespace Go.Proofs.YtmhjbicbdahllaaGreatDoor
open Go Go.RowKit

/-- A row with one more element, stored into a cell of another block. -/
theorem row_put {α : Type} {R : Lies α} (hR : R.Good) {E sz q j lo k : Nat} {w5 w6 w7 : World} {xs : List α} {A3 : Option Addr} {c3 : Nat} {cs : Nat → Array Value} {x : α} {c : Array Value} {g7 c7 : Nat}
    (hq : q < lo) (hlo : lo ≤ w5.heap.size) (hlen : xs.length = k) (hF : ∀ b, (Value.slice A3 k c3).ownBlock = some b → lo ≤ b ∧ b < w5.heap.size) (hsz : ∀ i, i < k → (cs i).size = sz) (hr : ∀ i x, xs[i]? = some x → R w5 (fun b => (lo ≤ b ∧ b < w5.heap.size) ∧ (Value.slice A3 k c3).ownBlock ≠ some b) x (cs i))
    (hb6 : Below w5.heap.size w5 w6) (hno : R w6 (fun b => w5.heap.size ≤ b ∧ b < w6.heap.size) x c) (hc : c.size = sz) (hg : w6.grownBy w7 (Value.slice A3 k c3).ownBlock) (hl : (Value.slice A3 k c3).ownBlock = some g7 ∨ g7 = w6.heap.size + 1)
    (ho : w7.ownsRow 0 E sz (.slice (some ⟨g7, 0, none⟩) (k + 1) c7) (k + 1) (flatC cs k ++ c.toList)) :
    SOwn E sz R (w7.setCell ⟨q, j, none⟩ (.slice (some ⟨g7, 0, none⟩) (k + 1) c7)) (fun b => lo ≤ b ∧ b < (w7.setCell ⟨q, j, none⟩ (.slice (some ⟨g7, 0, none⟩) (k + 1) c7)).heap.size) (xs ++ [x]) (.slice (some ⟨g7, 0, none⟩) (k + 1) c7) ∧
      Turn (fun b => some b = (Value.slice A3 k c3).ownBlock ∨ b = q) w6 (w7.setCell ⟨q, j, none⟩ (.slice (some ⟨g7, 0, none⟩) (k + 1) c7)) := by
  have hs6 : w5.heap.size ≤ w6.heap.size := hb6.size
  have hs7 : w6.heap.size ≤ w7.heap.size := hg.size
  have hg7 : g7 < w7.heap.size := (ho.lt g7 rfl).2
  have hsn := own_more (w5 := w6) (w6 := w7) (R := R) (E := E) (sz := sz) (F := fun b => lo ≤ b ∧ b < w5.heap.size) (G := fun b => w5.heap.size ≤ b ∧ b < w6.heap.size) (l := xs) (x := x) (s := .slice A3 k c3) (c := c) (g4 := g7) (c4 := c7) (cs := cs) hR
    (fun i hi => hsz i (by omega)) (fun i y hy => hR.keep (hr i y hy) (fun p hp => hb6.cell (by have := hp.1.2; omega))) hno hc (fun b hb e => by have := (hF b e).2; have := hb.1; omega) (fun b hb => by have := hb.2; omega) (fun b hb => hb.2) (by rw [hlen]; exact ho) hg (by rcases hl with e | e; exact .inl e; exact .inr (by omega))
  rw [hlen] at hsn
  have hT : Turn (fun b => some b = (Value.slice A3 k c3).ownBlock ∨ b = q) w6 (w7.setCell ⟨q, j, none⟩ (.slice (some ⟨g7, 0, none⟩) (k + 1) c7)) :=
    ((Turn.of_grown hg).mono (fun b _ hb => .inl hb)).trans (((Turn.refl (fun b => b = q) w7).setCell (p := ⟨q, j, none⟩) (.inr rfl) _).mono (fun b _ hb => .inr hb))
  refine ⟨(hsn.turn hR ((Turn.refl (fun b => b = q) w7).setCell (p := ⟨q, j, none⟩) (.inr rfl) _) (fun b hb => ?_) (fun b hb e => ?_)).mono hR (fun b hb => ?_), hT⟩
  · rcases hb with hb | hb | hb
    · omega
    · omega
    · omega
  · rcases hb with hb | hb | hb
    · omega
    · omega
    · rcases hl with h1 | h1
      · have := (hF g7 h1).1; omega
      · omega
  · show lo ≤ b ∧ b < (w7.setCell _ _).heap.size
    simp only [World.size_setCell]
    rcases hb with hb | hb | hb
    · omega
    · omega
    · rcases hl with h1 | h1
      · have := (hF g7 h1).1; omega
      · omega
/-- What 'Plain' holds behind some nodes. -/
structure Pl1 (w : World) (z : Nat) (ns : List NodeD) (Ns : Value) (wr : World) : Prop where
  below : Below z w wr
  res : wr.heap[z]? = some (.cells #[.slice none 0 0, .slice none 0 0] 25 (0, 0))
  box : wr.heap[z + 1]? = some (.cells #[Ns, .slice none 0 0] 25 (0, 0))
  own : SOwn 38 3 NoR wr (fun b => z + 2 ≤ b ∧ b < wr.heap.size) ns Ns
/-- .. behind some edges. -/
structure Pl2 (w : World) (z z2 : Nat) (ns : List NodeD) (es : List EdgeD) (Ns Es : Value) (wr : World) : Prop where
  below : Below z w wr
  res : wr.heap[z]? = some (.cells #[.slice none 0 0, .slice none 0 0] 25 (0, 0))
  box : wr.heap[z + 1]? = some (.cells #[Ns, Es] 25 (0, 0))
  nodes : SOwn 38 3 NoR wr (fun b => z + 2 ≤ b ∧ b < z2) ns Ns
  own : SOwn 41 5 EdR wr (fun b => z2 ≤ b ∧ b < wr.heap.size) es Es
  loc : z + 2 ≤ z2 ∧ z2 ≤ wr.heap.size
section
variable {w : World} {z z2 : Nat} {ns : List NodeD} {es : List EdgeD} {Ns Es : Value} {wr w2 : World}
theorem Pl1.on (h : Pl1 w z ns Ns wr) (hb : Below wr.heap.size wr w2) : Pl1 w z ns Ns w2 := by
  have hz := blk_lt h.box
  exact ⟨h.below.trans (hb.mono (by omega)), (hb.block _ (by omega)).trans h.res, (hb.block _ hz).trans h.box, (h.own.turn NoR.good (Turn.of_below hb) (fun b hb => hb.2) (fun b hb h => by omega)).mono NoR.good (fun b hb2 => ⟨hb2.1, Nat.lt_of_lt_of_le hb2.2 hb.size⟩)⟩
theorem Pl2.on (h : Pl2 w z z2 ns es Ns Es wr) (hb : Below wr.heap.size wr w2) : Pl2 w z z2 ns es Ns Es w2 := by
  have hz := blk_lt h.box
  have hl := h.loc
  exact ⟨h.below.trans (hb.mono (by omega)), (hb.block _ (by omega)).trans h.res, (hb.block _ hz).trans h.box, h.nodes.turn NoR.good (Turn.of_below hb) (fun b hb => by omega) (fun b hb h => by omega),
    (h.own.turn EdR.good (Turn.of_below hb) (fun b hb => hb.2) (fun b hb h => by omega)).mono EdR.good (fun b hb2 => ⟨hb2.1, Nat.lt_of_lt_of_le hb2.2 hb.size⟩), hl.1, Nat.le_trans hl.2 hb.size⟩
theorem Pl1.next (h : Pl1 w z ns Ns wr) : Pl2 w z wr.heap.size ns [] Ns (.slice none 0 0) wr := by
  have hz := blk_lt h.box
  exact ⟨h.below, h.res, h.box, h.own, SOwn.nil .., by omega, Nat.le_refl _⟩
end
theorem Pl1.more {w : World} {z k : Nat} {ns : List NodeD} {A3 : Option Addr} {c3 : Nat} {w5 w6 w7 : World} {cs : Nat → Array Value} {n' : NodeD} {c : Array Value} {g7 c7 : Nat}
    (h : Pl1 w z ns (.slice A3 k c3) w5) (hlen : ns.length = k) (hF : ∀ b, (Value.slice A3 k c3).ownBlock = some b → z + 2 ≤ b ∧ b < w5.heap.size) (h3c : ∀ i, i < k → (cs i).size = 3) (hr : ∀ i x, ns[i]? = some x → NoR w5 (fun b => (z + 2 ≤ b ∧ b < w5.heap.size) ∧ (Value.slice A3 k c3).ownBlock ≠ some b) x (cs i))
    (hb6 : Below w5.heap.size w5 w6) (hno : NoR w6 (fun b => w5.heap.size ≤ b ∧ b < w6.heap.size) n' c) (hc : c.size = 3) (hg : w6.grownBy w7 (Value.slice A3 k c3).ownBlock) (hl : (Value.slice A3 k c3).ownBlock = some g7 ∨ g7 = w6.heap.size + 1)
    (ho : w7.ownsRow 0 38 3 (.slice (some ⟨g7, 0, none⟩) (k + 1) c7) (k + 1) (flatC cs k ++ c.toList)) :
    Pl1 w z (ns ++ [n']) (.slice (some ⟨g7, 0, none⟩) (k + 1) c7) (w7.setCell ⟨z + 1, 0, none⟩ (.slice (some ⟨g7, 0, none⟩) (k + 1) c7)) := by
  have hz := blk_lt h.box
  have h6 := h.on hb6
  have hs6 : w5.heap.size ≤ w6.heap.size := hb6.size
  have hs7 : w6.heap.size ≤ w7.heap.size := hg.size
  obtain ⟨hsn, hT⟩ := row_put (q := z + 1) (j := 0) (lo := z + 2) NoR.good (by omega) (by omega) hlen hF h3c hr hb6 hno hc hg hl ho
  have hne : ∀ b, b < z + 2 → some b ≠ (Value.slice A3 k c3).ownBlock := fun b hb e => by have := (hF b e.symm).1; omega
  refine ⟨h6.below.trans (hT.below (B := z) (fun i _ hi => ?_) (by omega)), (hT.block _ (by omega) (fun hx => ?_)).trans h6.res, ?_, hsn⟩
  · rcases hi with hi | hi
    · have := (hF i hi.symm).1; omega
    · omega
  · rcases hx with hx | hx
    · exact hne _ (by omega) hx
    · omega
  · exact heap_setCell_same w7 (z + 1) 0 _ _ _ ((hg.block (z + 1) (by omega) (hne _ (by omega))).trans h6.box)
theorem Pl2.more {w : World} {z z2 k : Nat} {ns : List NodeD} {es : List EdgeD} {Ns : Value} {A3 : Option Addr} {c3 : Nat} {w5 w6 w7 : World} {cs : Nat → Array Value} {n' : EdgeD} {c : Array Value} {g7 c7 : Nat}
    (h : Pl2 w z z2 ns es Ns (.slice A3 k c3) w5) (hlen : es.length = k) (hF : ∀ b, (Value.slice A3 k c3).ownBlock = some b → z2 ≤ b ∧ b < w5.heap.size) (h3c : ∀ i, i < k → (cs i).size = 5) (hr : ∀ i x, es[i]? = some x → EdR w5 (fun b => (z2 ≤ b ∧ b < w5.heap.size) ∧ (Value.slice A3 k c3).ownBlock ≠ some b) x (cs i))
    (hb6 : Below w5.heap.size w5 w6) (hno : EdR w6 (fun b => w5.heap.size ≤ b ∧ b < w6.heap.size) n' c) (hc : c.size = 5) (hg : w6.grownBy w7 (Value.slice A3 k c3).ownBlock) (hl : (Value.slice A3 k c3).ownBlock = some g7 ∨ g7 = w6.heap.size + 1)
    (ho : w7.ownsRow 0 41 5 (.slice (some ⟨g7, 0, none⟩) (k + 1) c7) (k + 1) (flatC cs k ++ c.toList)) :
    Pl2 w z z2 ns (es ++ [n']) Ns (.slice (some ⟨g7, 0, none⟩) (k + 1) c7) (w7.setCell ⟨z + 1, 1, none⟩ (.slice (some ⟨g7, 0, none⟩) (k + 1) c7)) := by
  have hz := blk_lt h.box
  have hloc := h.loc
  have h6 := h.on hb6
  have hs6 : w5.heap.size ≤ w6.heap.size := hb6.size
  have hs7 : w6.heap.size ≤ w7.heap.size := hg.size
  obtain ⟨hsn, hT⟩ := row_put (q := z + 1) (j := 1) (lo := z2) EdR.good (by omega) hloc.2 hlen hF h3c hr hb6 hno hc hg hl ho
  have hne : ∀ b, b < z2 → some b ≠ (Value.slice A3 k c3).ownBlock := fun b hb e => by have := (hF b e.symm).1; omega
  refine ⟨h6.below.trans (hT.below (B := z) (fun i _ hi => ?_) (by omega)), (hT.block _ (by omega) (fun hx => ?_)).trans h6.res, ?_, h6.nodes.turn NoR.good hT (fun b hb => by omega) (fun b hb hx => ?_), hsn, hloc.1, by simp only [World.size_setCell]; omega⟩
  · rcases hi with hi | hi
    · have := (hF i hi.symm).1; omega
    · omega
  · rcases hx with hx | hx
    · exact hne _ (by omega) hx
    · omega
  · exact heap_setCell_same w7 (z + 1) 1 _ _ _ ((hg.block (z + 1) (by omega) (hne _ (by omega))).trans h6.box)
  · rcases hx with hx | hx
    · exact hne _ (by omega) hx
    · omega
/-- 'Plain' copies the store's graph. -/
def PlainIs (G : GraphD) (w : World) (e : Ending) (w' : World) : Prop :=
  ∃ (A : Option Addr) (c : Nat) (B : Option Addr) (d : Nat) (ns : List NodeD) (es : List EdgeD), e = .returned (.agg #[.slice A ns.length c, .slice B es.length d]) ∧ Below w.heap.size w w' ∧ GrR w' (fun b => w.heap.size ≤ b ∧ b < w'.heap.size) ⟨ns, es⟩ (.agg #[.slice A ns.length c, .slice B es.length d]) ∧ All2 SrtN G.nodes ns ∧ All2 SrtE G.edges es
set_option maxRecDepth 100000 in
set_option maxHeartbeats 8000000 in
theorem plain_any (G : GraphD) (lo p : Nat) (Ns0 Es0 : Value) (mh mt ma mid n0 : Nat) (w : World) (hst : StoreAt w lo p G Ns0 Es0 mh mt ma mid n0) (hfit : FitG G) (hflN : ∀ n, n ∈ G.nodes → FlatN n) (hflE : ∀ e, e ∈ G.edges → FlatE e) :
    Calls Tryz.prog 15 #[.pointer (some ⟨p, 0, none⟩)] w (PlainIs G w) := by
  have HFIT := Lib.hid hfit
  have HFN := Lib.hid hflN
  have HFE := Lib.hid hflE
  obtain ⟨AN, cN, hNe, _, hNr⟩ := hst.nodes
  obtain ⟨AE, cE, hEe, _, hEr⟩ := hst.edges
  obtain ⟨nN, HnN⟩ := name_itV G.nodes.length
  obtain ⟨nE, HnE⟩ := name_itV G.edges.length
  have hgn : nN ≤ 2000000 := by rw [← HnN.out]; exact hfit.1
  have hge : nE ≤ 2000000 := by rw [← HnE.out]; exact hfit.2.1
  rw [HnN.out] at hNe hNr
  rw [HnE.out] at hEe hEr
  subst hNe hEe
  have HST := Lib.hid hst
  obtain ⟨z, HZ⟩ := name_itV w.heap.size
  have HNR := Lib.hid (hNr.mono NoR.good (F' := fun b => b < z) (fun b hb => by have := hst.loc; have := HZ.out; omega))
  have HER := Lib.hid (hEr.mono EdR.good (F' := fun b => b < z) (fun b hb => by have := hst.loc; have := HZ.out; omega))
  have hpz : p < z := by rw [← HZ.out]; exact blk_lt hst.blk
  clear hst hfit hflN hflE hNr hEr
  obtain ⟨w1, HW1⟩ := name_itV ((w.alloc (.cells #[.slice none 0 0, .slice none 0 0] 25)).alloc (.cells #[.slice none 0 0, .slice none 0 0] 25))
  have HB1 := Lib.hid (show Below w.heap.size w w1 from by rw [← HW1.out]; exact two_new w _ _)
  have HL0 := Lib.hid (show Pl1 w z [] (.slice none 0 0) w1 from by
    refine ⟨by rw [← HZ.out]; exact HB1.out, ?_, ?_, SOwn.nil ..⟩
    · rw [← HW1.out, Below.heap_alloc _ _ _ (by rw [← HZ.out]; simp), ← HZ.out]
      exact heap_alloc_new w _
    · have := heap_alloc_new (w.alloc (.cells #[.slice none 0 0, .slice none 0 0] 25)) (.cells #[.slice none 0 0, .slice none 0 0] 25)
      rw [HW1.out] at this
      simpa [HZ.out] using this)
  have x0 : w1.cell? ⟨p, 0, none⟩ = some (.slice AN nN cN) := (HB1.out.cell (blk_lt HST.out.blk)).trans (Lib.cell_of_heap HST.out.blk 0)
  go_enter Tryz.func15, Tryz.ntmps15
  go_upto_region 2 with fail
  rw [HZ.out, HW1.out]
  go_wp2_with fail
  clear x0
  go_loopw [13] (fun s wx => ∃ (k : Nat) (xs : List NodeD) (Xs : Value), k ≤ nN ∧ s = .int .i64 (k : Nat) ∧ Hid (Pl1 w z xs Xs wx ∧ All2 SrtN (G.nodes.take k) xs)) (fun s _ => nN - (intOf s).toNat)
  case atStart => exact ⟨0, [], _, by omega, rfl, Lib.hid ⟨HL0.out, by rw [List.take_zero]; exact All2.nil _⟩⟩
  case round =>
    obtain ⟨k, xs, Xs, hk, rfl, hM2⟩ := hrel
    have hM := Lib.hid hM2.out.1
    have HALL := Lib.hid hM2.out.2
    clear hM2
    by_cases hlt : k < nN
    · obtain ⟨x, hx⟩ : ∃ x, G.nodes[k]? = some x := ⟨G.nodes[k]'(by rw [HnN.out]; exact hlt), List.getElem?_eq_getElem _⟩
      have HX := Lib.hid hx
      have hfx := Lib.hid (HFIT.out.2.2.1 x (List.mem_of_getElem? hx))
      have hfl := Lib.hid (HFN.out x (List.mem_of_getElem? hx))
      obtain ⟨ad, A1, d1, A2, d2, rfl, hFa, hNo, hl1, hl2, q0, q1, q2⟩ := nodesAt (HNR.out.under NoR.good hM.out.below (fun b hb => hb)) hx
      have HNO2 := Lib.hid hNo
      clear hx hFa hNo hl1 hl2
      obtain ⟨id, Hxid⟩ := name_itV x.id
      obtain ⟨m1, Hm1⟩ := name_itV x.labels.length
      obtain ⟨m2, Hm2⟩ := name_itV x.props.length
      rw [Hxid.out] at q0 HNO2
      rw [Hm1.out] at q1 HNO2
      rw [Hm2.out] at q2 HNO2
      obtain ⟨zn, Hzn⟩ := name_itV wr.heap.size
      obtain ⟨w5, HW5⟩ := name_itV (wr.alloc (.cells #[.int .i64 id, .slice A1 m1 d1, .slice A2 m2 d2] 38))
      have HB5 := Lib.hid (show Below wr.heap.size wr w5 from by rw [← HW5.out]; exact (Below.refl _ _).alloc (Nat.le_refl _) _)
      have HK5 := Lib.hid (show w5.heap[zn]? = some (.cells #[.int .i64 id, .slice A1 m1 d1, .slice A2 m2 d2] 38 (0, 0)) from by rw [← HW5.out, ← Hzn.out]; exact heap_alloc_new wr _)
      have HM5 := Lib.hid (hM.out.on HB5.out)
      have hlen : xs.length = k := by rw [← HALL.out.1, List.length_take, HnN.out]; omega
      have HLEN := Lib.hid hlen
      obtain ⟨A3, c3, h3⟩ := HM5.out.own.form
      rw [hlen] at h3
      subst h3
      have HBz5 := Lib.hid (show Below z w w5 from HM5.out.below)
      have hzw5 := Lib.hid (show z + 1 < w5.heap.size from blk_lt HM5.out.box)
      have hnd := Lib.hid (node_any x hfx.out.1 hfl.out (fun b => b < z) _ w5.drew (fun b hb => by show b < w5.heap.size; have := hzw5.out; omega) (NoR.good.keep HNO2.out (w' := w5.drew) (fun q hq => (HB5.out.cell (Nat.lt_of_lt_of_le hq (by have := blk_lt hM.out.box; omega))))))
      obtain ⟨cs, hrow, h3c, hFw, hr⟩ := HM5.out.own
      rw [hlen] at hrow h3c
      have HROW := Lib.hid hrow
      have HFW := Lib.hid (show ∀ b, (Value.slice A3 k c3).ownBlock = some b → z + 2 ≤ b ∧ b < w5.heap.size from hFw)
      have HREST := Lib.hid (And.intro h3c hr)
      have g0 : w5.drew.cell? ⟨z + 1, 0, none⟩ = some (.slice A3 k c3) := Lib.cell_of_heap HM5.out.box 0
      have n0 : w5.drew.cell? ⟨zn, 0, none⟩ = some (.int .i64 id) := Lib.cell_of_heap HK5.out 0
      have n1 : w5.drew.cell? ⟨zn, 1, none⟩ = some (.slice A1 m1 d1) := Lib.cell_of_heap HK5.out 1
      have n2 : w5.drew.cell? ⟨zn, 2, none⟩ = some (.slice A2 m2 d2) := Lib.cell_of_heap HK5.out 2
      clear hlen hrow h3c hFw hr hM
      obtain ⟨i0, hi0, hz0a, hz1a, hz2a⟩ := info_parts infoNode
      have e1 : (0 : Int) ≤ k := by omega
      have e2 : (k : Int) < nN := by omega
      go_upto_region 5 with fail
      rw [Hzn.out, HW5.out]
      clear q0 q1 q2
      go_region_law (first | (refine step_append_lies _ rfl _ _ 22 rfl 0 38 i0 (.agg #[.int .i64 0, .slice none 0 0, .slice none 0 0]) 3 56 Tryz.underlying22 hi0 hz0a hz1a hz2a rfl (by decide) (.slice A3 k c3) k (flatC cs k) rfl (by exact HROW6.out.alloc _) ⟨w6.heap.size, 0, none⟩ 1 1 [.int .i64 id, .slice A6 q6 c6, .slice B6 r6 cb6] rfl rfl (World.news_of_block (cs := #[.int .i64 id, .slice A6 q6 c6, .slice B6 r6 cb6]) (by exact NB.out)) HONE.out (by omega) (by unfold maxLen; omega) (by omega) (Nat.zero_le _) (w6.heap.size + 1) (by exact HS6.out) (fun g7 c7 w7 ho7 hg7 hl7 _ => ?_); have HO7 := Lib.hid ho7; have HG7 := Lib.hid (show w6.grownBy w7 (Value.slice A3 k c3).ownBlock from grown_after (w := w6) (o := .cells #[.int .i64 id, .slice A6 q6 c6, .slice B6 r6 cb6] 38) ⟨hg7.os, hg7.tape, hg7.output, hg7.size, hg7.block⟩); have HL7 := Lib.hid (show (Value.slice A3 k c3).ownBlock = some g7 ∨ g7 = w6.heap.size + 1 from hl7); have HC7 := Lib.hid ((HG7.out.block (z + 1) (by have := HSZ6.out; omega) (fun e => by have := HFW.out (z + 1) e.symm; omega)).trans HST6.out); have f7 : w7.frozen? ⟨z + 1, 0, none⟩ = false := Lib.frozen_of_heap HC7.out 0; have g7c : w7.cell? ⟨z + 1, 0, none⟩ = some (.slice A3 k c3) := Lib.cell_of_heap HC7.out 0; clear ho7 hg7 hl7) | (go_simp; go_at_call 31; (with_reducible refine hnd.out.mono ?_); rintro e w6 ⟨cc, n', rfl, hb6, hsrt, hno6⟩; have HN6 := Lib.hid hno6; obtain ⟨L6, P6, rfl, ⟨A6, c6, rfl, _, _⟩, B6, cb6, rfl, _, _⟩ := hno6; obtain ⟨q6, Hq6⟩ := name_itV n'.labels.length; obtain ⟨r6, Hr6⟩ := name_itV n'.props.length; rw [Hq6.out, Hr6.out] at HN6 ⊢; rw [hsrt.1, Hxid.out] at HN6 ⊢; have HB6 := Lib.hid hb6; have HSRT := Lib.hid hsrt; have HSZ6 := Lib.hid (show z + 1 < w6.heap.size from by have h1 : w5.heap.size ≤ w6.heap.size := hb6.size; have := hzw5.out; omega); have HROW6 := Lib.hid ((Turn.of_below hb6).owns HROW.out (fun g hg h => by have := HFW.out g hg; have h2 : w5.heap.size ≤ g := h; omega)); have HST6 := Lib.hid ((hb6.block (z + 1) (by show z + 1 < w5.heap.size; exact hzw5.out)).trans HM5.out.box); have g6a : w6.cell? ⟨z + 1, 0, none⟩ = some (.slice A3 k c3) := Lib.cell_of_heap HST6.out 0; have g6b : (w6.alloc (.cells #[.int .i64 id, .slice A6 q6 c6, .slice B6 r6 cb6] 38)).cell? ⟨z + 1, 0, none⟩ = some (.slice A3 k c3) := (World.cell?_alloc_lt w6 _ _ (by show z + 1 < _; exact HSZ6.out)).trans g6a; have HONE := Lib.hid (show ∀ u ∈ ([.int .i64 id, .slice A6 q6 c6, .slice B6 r6 cb6] : List Value), u.oneCell' = true from fun u hu => by simp at hu; rcases hu with rfl | rfl | rfl <;> rfl); have NB := Lib.hid (heap_alloc_new w6 (.cells #[.int .i64 id, .slice A6 q6 c6, .slice B6 r6 cb6] 38)); have HS6 := Lib.hid (show (w6.alloc (.cells #[.int .i64 id, .slice A6 q6 c6, .slice B6 r6 cb6] 38)).heap.size = w6.heap.size + 1 by simp); clear hb6 hsrt))
      all_goals (
        have w1 : IntKind.i64.wrap ((k : Int) + 1) = (k : Int) + 1 := IntWalk.i64_in _ (by omega)
        go_wp2_with fail
        go_roundw)
      all_goals first
        | (case measure => simp [intOf]; omega)
        | (case rel =>
            refine ⟨k + 1, xs ++ [n'], .slice (some ⟨g7, 0, none⟩) (k + 1) c7, by omega, by go_num, Lib.hid ⟨?_, by rw [take_oneMore HX.out]; exact HALL.out.snoc HSRT.out⟩⟩
            exact Pl1.more HM5.out HLEN.out HFW.out HREST.out.1 HREST.out.2 (below_of_drew HB6.out) HN6.out rfl HG7.out HL7.out HO7.out)
    · have hke : nN = k := by omega
      have HAL := Lib.hid (show All2 SrtN G.nodes xs from by
        have h := HALL.out
        rw [List.take_of_length_le (by rw [HnN.out, hke]; exact Nat.le_refl _)] at h
        exact h)
      have hlen : xs.length = k := by rw [← HAL.out.1, HnN.out]; exact hke
      obtain ⟨A1N, c1N, hX⟩ := hM.out.own.form
      rw [hlen] at hX
      subst hX
      have HLX := Lib.hid hlen
      have hP2 := hM.out.next
      obtain ⟨ns, hns⟩ : ∃ ns, ns = xs := ⟨xs, rfl⟩
      rw [← hns] at hP2 HAL HLX
      obtain ⟨z2, Hz2⟩ := name_itV wr.heap.size
      rw [Hz2.out] at hP2
      obtain ⟨k1, hk1⟩ : ∃ k1, k1 = k := ⟨k, rfl⟩
      rw [← hk1] at hP2 HLX
      have HP2 := Lib.hid hP2
      have HK1 := Lib.hid hk1
      have x1 : wr.cell? ⟨p, 1, none⟩ = some (.slice AE nE cE) := (HP2.out.below.cell hpz).trans (Lib.cell_of_heap HST.out.blk 1)
      clear hlen hns hM hP2 HALL hk1
      subst hke
      go_upto_region 7 with fail
      go_wp2_with fail
      clear x1
      go_loopw [30] (fun s wx => ∃ (k : Nat) (xs : List EdgeD) (Xs : Value), k ≤ nE ∧ s = .int .i64 (k : Nat) ∧ Hid (Pl2 w z z2 ns xs (.slice A1N k1 c1N) Xs wx ∧ All2 SrtE (G.edges.take k) xs)) (fun s _ => nE - (intOf s).toNat)
      case atStart => exact ⟨0, [], _, by omega, rfl, Lib.hid ⟨HP2.out, by rw [List.take_zero]; exact All2.nil _⟩⟩
      case round =>
        obtain ⟨k, xs, Xs, hk, rfl, hM2⟩ := hrel
        have hM := Lib.hid hM2.out.1
        have HALL := Lib.hid hM2.out.2
        clear hM2
        by_cases hlt : k < nE
        · obtain ⟨x, hx⟩ : ∃ x, G.edges[k]? = some x := ⟨G.edges[k]'(by rw [HnE.out]; exact hlt), List.getElem?_eq_getElem _⟩
          have HX := Lib.hid hx
          have hfx := Lib.hid (HFIT.out.2.2.2 x (List.mem_of_getElem? hx))
          have hfl := Lib.hid (HFE.out x (List.mem_of_getElem? hx))
          obtain ⟨ad, A2, d2, rfl, hFa, hEd, hl2, q0, q1, q2, q3, q4⟩ := edgesAt (HER.out.under EdR.good hM.out.below (fun b hb => hb)) hx
          have HNO2 := Lib.hid hEd
          clear hx hFa hEd hl2
          obtain ⟨id, Hxid⟩ := name_itV x.id
          obtain ⟨src, Hsrc⟩ := name_itV x.src
          obtain ⟨dst, Hdst⟩ := name_itV x.dst
          obtain ⟨typ, Htyp⟩ := name_itV x.type
          obtain ⟨m2, Hm2⟩ := name_itV x.props.length
          rw [Hxid.out] at q0 HNO2
          rw [Hsrc.out] at q1 HNO2
          rw [Hdst.out] at q2 HNO2
          rw [Htyp.out] at q3 HNO2
          rw [Hm2.out] at q4 HNO2
          obtain ⟨zn, Hzn⟩ := name_itV wr.heap.size
          obtain ⟨w5, HW5⟩ := name_itV (wr.alloc (.cells #[.int .i64 id, .int .i64 src, .int .i64 dst, .string typ, .slice A2 m2 d2] 41))
          have HB5 := Lib.hid (show Below wr.heap.size wr w5 from by rw [← HW5.out]; exact (Below.refl _ _).alloc (Nat.le_refl _) _)
          have HK5 := Lib.hid (show w5.heap[zn]? = some (.cells #[.int .i64 id, .int .i64 src, .int .i64 dst, .string typ, .slice A2 m2 d2] 41 (0, 0)) from by rw [← HW5.out, ← Hzn.out]; exact heap_alloc_new wr _)
          have HM5 := Lib.hid (hM.out.on HB5.out)
          have hlen : xs.length = k := by rw [← HALL.out.1, List.length_take, HnE.out]; omega
          have HLEN := Lib.hid hlen
          obtain ⟨A3, c3, h3⟩ := HM5.out.own.form
          rw [hlen] at h3
          subst h3
          have HBz5 := Lib.hid (show Below z w w5 from HM5.out.below)
          have hzw5 := Lib.hid (show z + 1 < w5.heap.size from blk_lt HM5.out.box)
          have hnd := Lib.hid (edge_any x hfx.out.1 hfl.out (fun b => b < z) _ w5.drew (fun b hb => by show b < w5.heap.size; have := hzw5.out; omega) (EdR.good.keep HNO2.out (w' := w5.drew) (fun q hq => (HB5.out.cell (Nat.lt_of_lt_of_le hq (by have := blk_lt hM.out.box; omega))))))
          obtain ⟨cs, hrow, h3c, hFw, hr⟩ := HM5.out.own
          rw [hlen] at hrow h3c
          have HROW := Lib.hid hrow
          have HFW := Lib.hid (show ∀ b, (Value.slice A3 k c3).ownBlock = some b → z2 ≤ b ∧ b < w5.heap.size from hFw)
          have HREST := Lib.hid (And.intro h3c hr)
          have g0 : w5.drew.cell? ⟨z + 1, 1, none⟩ = some (.slice A3 k c3) := Lib.cell_of_heap HM5.out.box 1
          have n0 : w5.drew.cell? ⟨zn, 0, none⟩ = some (.int .i64 id) := Lib.cell_of_heap HK5.out 0
          have n1 : w5.drew.cell? ⟨zn, 1, none⟩ = some (.int .i64 src) := Lib.cell_of_heap HK5.out 1
          have n2 : w5.drew.cell? ⟨zn, 2, none⟩ = some (.int .i64 dst) := Lib.cell_of_heap HK5.out 2
          have n3 : w5.drew.cell? ⟨zn, 3, none⟩ = some (.string typ) := Lib.cell_of_heap HK5.out 3
          have n4 : w5.drew.cell? ⟨zn, 4, none⟩ = some (.slice A2 m2 d2) := Lib.cell_of_heap HK5.out 4
          have hfar1 : z + 2 ≤ z2 := HM5.out.loc.1
          clear hlen hrow h3c hFw hr hM
          obtain ⟨i0, hi0, hz0a, hz1a, hz2a⟩ := info_parts infoEdge
          have e1 : (0 : Int) ≤ k := by omega
          have e2 : (k : Int) < nE := by omega
          go_upto_region 10 with fail
          rw [Hzn.out, HW5.out]
          clear q0 q1 q2 q3 q4
          go_region_law (first | (refine step_append_lies _ rfl _ _ 23 rfl 0 41 i0 (.agg #[.int .i64 0, .int .i64 0, .int .i64 0, .string ⟨#[]⟩, .slice none 0 0]) 5 64 Tryz.underlying23 hi0 hz0a hz1a hz2a rfl (by decide) (.slice A3 k c3) k (flatC cs k) rfl (by exact HROW6.out.alloc _) ⟨w6.heap.size, 0, none⟩ 1 1 [.int .i64 id, .int .i64 src, .int .i64 dst, .string typ, .slice B6 r6 cb6] rfl rfl (World.news_of_block (cs := #[.int .i64 id, .int .i64 src, .int .i64 dst, .string typ, .slice B6 r6 cb6]) (by exact NB.out)) HONE.out (by omega) (by unfold maxLen; omega) (by omega) (Nat.zero_le _) (w6.heap.size + 1) (by exact HS6.out) (fun g7 c7 w7 ho7 hg7 hl7 _ => ?_); have HO7 := Lib.hid ho7; have HG7 := Lib.hid (show w6.grownBy w7 (Value.slice A3 k c3).ownBlock from grown_after (w := w6) (o := .cells #[.int .i64 id, .int .i64 src, .int .i64 dst, .string typ, .slice B6 r6 cb6] 41) ⟨hg7.os, hg7.tape, hg7.output, hg7.size, hg7.block⟩); have HL7 := Lib.hid (show (Value.slice A3 k c3).ownBlock = some g7 ∨ g7 = w6.heap.size + 1 from hl7); have HC7 := Lib.hid ((HG7.out.block (z + 1) (by have := HSZ6.out; omega) (fun e => by have := HFW.out (z + 1) e.symm; omega)).trans HST6.out); have f7 : w7.frozen? ⟨z + 1, 1, none⟩ = false := Lib.frozen_of_heap HC7.out 1; have g7c : w7.cell? ⟨z + 1, 1, none⟩ = some (.slice A3 k c3) := Lib.cell_of_heap HC7.out 1; clear ho7 hg7 hl7) | (go_simp; go_at_call 33; (with_reducible refine hnd.out.mono ?_); rintro e w6 ⟨cc, n', rfl, hb6, hsrt, hno6⟩; have HN6 := Lib.hid hno6; obtain ⟨P6, rfl, B6, cb6, rfl, _, _⟩ := hno6; obtain ⟨r6, Hr6⟩ := name_itV n'.props.length; rw [Hr6.out] at HN6 ⊢; rw [hsrt.1, hsrt.2.1, hsrt.2.2.1, hsrt.2.2.2.1, Hxid.out, Hsrc.out, Hdst.out, Htyp.out] at HN6 ⊢; have HB6 := Lib.hid hb6; have HSRT := Lib.hid hsrt; have HSZ6 := Lib.hid (show z + 1 < w6.heap.size from by have h1 : w5.heap.size ≤ w6.heap.size := hb6.size; have := hzw5.out; omega); have HROW6 := Lib.hid ((Turn.of_below hb6).owns HROW.out (fun g hg h => by have := HFW.out g hg; have h2 : w5.heap.size ≤ g := h; omega)); have HST6 := Lib.hid ((hb6.block (z + 1) (by show z + 1 < w5.heap.size; exact hzw5.out)).trans HM5.out.box); have g6a : w6.cell? ⟨z + 1, 1, none⟩ = some (.slice A3 k c3) := Lib.cell_of_heap HST6.out 1; have g6b : (w6.alloc (.cells #[.int .i64 id, .int .i64 src, .int .i64 dst, .string typ, .slice B6 r6 cb6] 41)).cell? ⟨z + 1, 1, none⟩ = some (.slice A3 k c3) := (World.cell?_alloc_lt w6 _ _ (by show z + 1 < _; exact HSZ6.out)).trans g6a; have HONE := Lib.hid (show ∀ u ∈ ([.int .i64 id, .int .i64 src, .int .i64 dst, .string typ, .slice B6 r6 cb6] : List Value), u.oneCell' = true from fun u hu => by simp at hu; rcases hu with rfl | rfl | rfl | rfl | rfl <;> rfl); have NB := Lib.hid (heap_alloc_new w6 (.cells #[.int .i64 id, .int .i64 src, .int .i64 dst, .string typ, .slice B6 r6 cb6] 41)); have HS6 := Lib.hid (show (w6.alloc (.cells #[.int .i64 id, .int .i64 src, .int .i64 dst, .string typ, .slice B6 r6 cb6] 41)).heap.size = w6.heap.size + 1 by simp); clear hb6 hsrt))
          all_goals (
            have w1 : IntKind.i64.wrap ((k : Int) + 1) = (k : Int) + 1 := IntWalk.i64_in _ (by omega)
            go_wp2_with fail
            go_roundw)
          all_goals first
            | (case measure => simp [intOf]; omega)
            | (case rel =>
                refine ⟨k + 1, xs ++ [n'], .slice (some ⟨g7, 0, none⟩) (k + 1) c7, by omega, by go_num, Lib.hid ⟨?_, by rw [take_oneMore HX.out]; exact HALL.out.snoc HSRT.out⟩⟩
                exact Pl2.more HM5.out HLEN.out HFW.out HREST.out.1 HREST.out.2 (below_of_drew HB6.out) HN6.out rfl HG7.out HL7.out HO7.out)
        · have hke : nE = k := by omega
          have HAE := Lib.hid (show All2 SrtE G.edges xs from by
            have h := HALL.out
            rw [List.take_of_length_le (by rw [HnE.out, hke]; exact Nat.le_refl _)] at h
            exact h)
          have hlen : xs.length = k := by rw [← HAE.out.1, HnE.out]; exact hke
          obtain ⟨A2E, c2E, hX⟩ := hM.out.own.form
          rw [hlen] at hX
          subst hX
          have HLE2 := Lib.hid hlen
          have hbx : wr.cell? ⟨z + 1, 0, none⟩ = some (.slice A1N k1 c1N) := Lib.cell_of_heap hM.out.box 0
          have hby : wr.cell? ⟨z + 1, 1, none⟩ = some (.slice A2E k c2E) := Lib.cell_of_heap hM.out.box 1
          have r0 : wr.cell? ⟨z, 0, none⟩ = some (.slice none 0 0) := Lib.cell_of_heap hM.out.res 0
          have r1 : wr.cell? ⟨z, 1, none⟩ = some (.slice none 0 0) := Lib.cell_of_heap hM.out.res 1
          have y0 : wr.frozen? ⟨z, 0, none⟩ = false := Lib.frozen_of_heap hM.out.res 0
          have y1 : wr.frozen? ⟨z, 1, none⟩ = false := Lib.frozen_of_heap hM.out.res 1
          clear hlen HALL
          subst hke
          go_upto_region 12 with fail
          go_wp2_with fail
          have h1 := heap_setCell_same _ z 1 _ _ (.slice A2E nE c2E) (heap_setCell_same _ z 0 _ _ (.slice A1N k1 c1N) hM.out.res)
          have ht := (((Turn.refl (fun b => b = z) wr).setCell (p := ⟨z, 0, none⟩) (.inr rfl) (.slice A1N k1 c1N)).setCell (p := ⟨z, 1, none⟩) (.inr rfl) (.slice A2E nE c2E))
          obtain ⟨W9, HW9⟩ := name_itV ((wr.setCell ⟨z, 0, none⟩ (.slice A1N k1 c1N)).setCell ⟨z, 1, none⟩ (.slice A2E nE c2E))
          rw [HW9.out] at h1 ht ⊢
          have k0 : W9.cell? ⟨z, 0, none⟩ = some (.slice A1N k1 c1N) := Lib.cell_of_heap h1 0
          have k1' : W9.cell? ⟨z, 1, none⟩ = some (.slice A2E nE c2E) := Lib.cell_of_heap h1 1
          have hloc := hM.out.loc
          have hpl : Below w.heap.size w W9 := by rw [HZ.out]; exact hM.out.below.trans (ht.below (fun i _ h => by omega) (by have := blk_lt hM.out.box; omega))
          have hgr : GrR W9 (fun b => w.heap.size ≤ b ∧ b < W9.heap.size) ⟨ns, xs⟩ (.agg #[.slice A1N k1 c1N, .slice A2E nE c2E]) := by
            refine ⟨_, _, rfl, ?_, ?_⟩
            · refine ((hM.out.nodes.turn NoR.good ht (fun b hb => by omega) (fun b hb => by omega)).rd NoR.good).mono NoR.good (fun b hb => ⟨by have := HZ.out; omega, by have := ht.size; omega⟩)
            · refine ((hM.out.own.turn EdR.good ht (fun b hb => hb.2) (fun b hb => by omega)).rd EdR.good).mono EdR.good (fun b hb => ⟨by have := HZ.out; omega, by have := ht.size; omega⟩)
          rw [← HLX.out, ← HLE2.out] at *
          refine bodyPost_ret (v := .agg #[.slice A1N ns.length c1N, .slice A2E xs.length c2E]) (by simp [results, Tryz.results15, go_sem, k0, k1']) rfl ⟨A1N, c1N, A2E, c2E, ns, xs, rfl, hpl, hgr, HAL.out, HAE.out⟩
end Go.Proofs.YtmhjbicbdahllaaGreatDoor

namespace Go.Proofs.YtmhjbicbdahllaaGreatDoor
open Go Go.RowKit

def n00 : NodeD := ⟨1, [⟨#[65]⟩], []⟩
def e00 : EdgeD := ⟨7, 1, 1, ⟨#[116]⟩, []⟩
def g00 : GraphD := ⟨[n00], [e00]⟩
theorem may_g00 : mayG g00 = true := by
  unfold mayG g00 n00 e00
  simp [scanG, okN, okE, lablG, propsB, propsG, textB, inB]
  exact ⟨⟨by decide, by decide⟩, by decide, by decide⟩
theorem fit_g00 : FitG g00 := by
  refine ⟨by decide, by decide, fun n hn => ?_, fun e he => ?_⟩
  · rw [List.mem_singleton.1 hn]
    exact ⟨⟨by decide, by decide, fun s hs => by rw [List.mem_singleton.1 hs]; decide, fun p hp => by cases hp⟩, vi1⟩
  · rw [List.mem_singleton.1 he]
    exact ⟨⟨by decide, by decide, fun p hp => by cases hp⟩, by unfold VI; decide, vi1, vi1⟩
theorem all2_one {α β : Type} {R : α → β → Prop} {x : α} {m : List β} (h : All2 R [x] m) : ∃ y, m = [y] ∧ R x y := by
  match m, h with
  | [y], h => exact ⟨y, rfl, h.2 0 x y rfl rfl⟩
  | [], h => exact absurd h.1 (by simp)
  | _ :: _ :: _, h => exact absurd h.1 (by simp)
theorem srt_g00 {g : GraphD} (h : SrtG g00 g) : g = g00 := by
  obtain ⟨⟨m, h1, h2, _⟩, ⟨k, h3, h4, _⟩⟩ := h
  obtain ⟨y, rfl, hy⟩ := all2_one h1
  obtain ⟨u, rfl, hu⟩ := all2_one h3
  obtain ⟨ns, es⟩ := g
  have e1 : ns = [y] := List.perm_singleton.1 h2
  have e2 : es = [u] := List.perm_singleton.1 h4
  obtain ⟨a, b, c⟩ := y
  obtain ⟨i, s, d, t, q⟩ := u
  obtain ⟨p1, p2, p3⟩ := hy
  obtain ⟨q1, q2, q3, q4, q5⟩ := hu
  have f1 : b = [⟨#[65]⟩] := List.perm_singleton.1 p2.1
  have f2 : c = [] := List.perm_nil.1 p3.1
  have f3 : q = [] := List.perm_nil.1 q5.1
  have p1 : a = 1 := p1
  have q1 : i = 7 := q1
  have q2 : s = 1 := q2
  have q3 : d = 1 := q3
  have q4 : t = ⟨#[116]⟩ := q4
  subst e1 e2 f1 f2 f3 p1 q1 q2 q3 q4
  rfl
theorem hops_g00 : hopIds g00.edges [] (hopsG g00.edges 1 0) = [7] := by decide
theorem lab_g00 : labeledG g00 [⟨#[65]⟩] = [1] := by
  unfold labeledG g00 n00
  simp [allB, inB]
theorem rd_one {α : Type} {R : Lies α} {w : World} {F : Nat → Prop} {b sz : Nat} {T : TypeId} {c : Array Value} {x : α} (hb : w.heap[b]? = some (.cells c T (0, 0))) (hF : F b) (hc : c.size = sz) (hx : R w F x c) : SRd sz R w F [x] (some ⟨b, 0, none⟩) 1 := by
  refine ⟨rfl, fun _ => ⟨⟨b, 0, none⟩, rfl, hF, fun i y hy => ?_⟩⟩
  cases i with
  | zero =>
    simp at hy
    subst hy
    refine ⟨c, hc, fun j hj => ?_, hx⟩
    have h : (⟨b, 0, none⟩ : Addr).add (0 * sz + j) = ⟨b, j, none⟩ := by
      unfold Addr.add
      simp only [Nat.zero_mul, Nat.zero_add]
      split
      · rename_i h0; rw [h0]
      · rfl
    rw [h]
    exact Lib.cell_of_heap hb j
  | succ i => simp at hy
set_option maxRecDepth 100000 in
theorem fieldG (a b : Value) (w : World) : (Instr.field 25 (.agg #[a, b]) 1).run Tryz.prog w = .ok b w := by kernel_rfl
/-- One number comes back. -/
def NumIs (x : Int) (w : World) (e : Ending) (w' : World) : Prop := ∃ A c, e = .returned (.slice A 1 c) ∧ Below w.heap.size w w' ∧ SRd 1 IxR w' (fun b => b < w'.heap.size) [x] A 1
theorem nums_one {P : Program} {f : Nat} {args : Array Value} {x : Int} {w : World} (h : Calls P f args w (NumsIs [x] w)) : Calls P f args w (NumIs x w) :=
  h.mono fun _ _ ⟨A, c, he, hb, hr⟩ => ⟨A, c, he, hb, hr.mono IxR.good (fun _ h => h.2)⟩
set_option maxRecDepth 100000 in
set_option maxHeartbeats 4000000 in
theorem wakes_any (w : World) (hg : GlobB w) : Calls Tryz.prog 8 #[] w (ToldB true w) := by
  obtain ⟨z, HZ⟩ := name_itV w.heap.size
  obtain ⟨w3, HW3⟩ := name_itV (((w.alloc (.cells #[.string ⟨#[65]⟩] 9)).alloc (.cells #[.int .i64 1, .slice (some ⟨z, 0, none⟩) 1 1, .slice none 0 0] 38)).alloc (.cells #[.int .i64 7, .int .i64 1, .int .i64 1, .string ⟨#[116]⟩, .slice none 0 0] 41))
  have HN3 := Lib.hid (three_new w (.cells #[.string ⟨#[65]⟩] 9) (.cells #[.int .i64 1, .slice (some ⟨z, 0, none⟩) 1 1, .slice none 0 0] 38) (.cells #[.int .i64 7, .int .i64 1, .int .i64 1, .string ⟨#[116]⟩, .slice none 0 0] 41))
  have HB3 := Lib.hid (show Below w.heap.size w w3 from by rw [← HW3.out]; exact below_new3 w _ _ _)
  have hs3 : w3.heap.size = z + 3 := by rw [← HW3.out, ← HZ.out]; simp
  have HS3 := Lib.hid hs3
  have k0 : w3.heap[z + 0]? = some (.cells #[.string ⟨#[65]⟩] 9 (0, 0)) := by rw [← HW3.out, HN3.out]; exact app_at HZ.out rfl
  have k1 : w3.heap[z + 1]? = some (.cells #[.int .i64 1, .slice (some ⟨z, 0, none⟩) 1 1, .slice none 0 0] 38 (0, 0)) := by rw [← HW3.out, HN3.out]; exact app_at HZ.out rfl
  have k2 : w3.heap[z + 2]? = some (.cells #[.int .i64 7, .int .i64 1, .int .i64 1, .string ⟨#[116]⟩, .slice none 0 0] 41 (0, 0)) := by rw [← HW3.out, HN3.out]; exact app_at HZ.out rfl
  have hgr : GrR w3 (fun b => b < w3.heap.size) g00 (.agg #[.slice (some ⟨z + 1, 0, none⟩) 1 1, .slice (some ⟨z + 2, 0, none⟩) 1 1]) := by
    refine ⟨_, _, rfl, ⟨_, 1, rfl, Nat.le_refl _, rd_one (c := #[.int .i64 1, .slice (some ⟨z, 0, none⟩) 1 1, .slice none 0 0]) k1 (by omega) rfl ?_⟩, ⟨_, 1, rfl, Nat.le_refl _, rd_one (c := #[.int .i64 7, .int .i64 1, .int .i64 1, .string ⟨#[116]⟩, .slice none 0 0]) k2 (by omega) rfl ?_⟩⟩
    · exact ⟨_, _, rfl, ⟨_, 1, rfl, Nat.le_refl _, rd_one (c := #[.string ⟨#[65]⟩]) k0 (by omega) rfl rfl⟩, SlR.nil ..⟩
    · exact ⟨_, rfl, SlR.nil ..⟩
  have hld := Lib.hid (load_any g00 fit_g00 _ _ w3 (fun b hb => hb) hgr (glob_under hg HB3.out))
  clear hs3 k0 k1 k2 hgr hg
  go_enter Tryz.func8, Tryz.ntmps8
  go_wp2_with fail
  rw [HZ.out]
  simp only [Nat.add_assoc, Nat.reduceAdd]
  rw [HW3.out]
  refine hld.out.mono ?_
  rintro e w4 ⟨hb4, hor⟩
  rcases hor with ⟨hno, _⟩ | ⟨_, p, g', rfl, hst, hsr⟩
  · rw [may_g00] at hno; cases hno
  have hg' := srt_g00 hsr
  subst hg'
  obtain ⟨Ns, Es, mh, mt, ma, mid, n0, hst⟩ := hst
  have HST := Lib.hid hst
  have HB4 := Lib.hid (HB3.out.trans (hb4.mono HB3.out.size))
  have hhp := Lib.hid (nums_one (hops_g00 ▸ hops_any g00 1 0 [] _ p Ns Es mh mt ma mid n0 (fun _ => False) none 0 0 w4 hst vi1 vi0 (fun _ h => h.elim) (SRd.nil ..) (by decide) (by decide)))
  clear hst hsr hb4 hld HN3
  go_wp2_with fail
  refine hhp.out.mono ?_
  rintro e w5 ⟨A5, c5, rfl, hb5, hr5⟩
  have HB5 := Lib.hid hb5
  have HR5 := Lib.hid hr5
  clear hb5 hr5 hhp
  go_wp2_with fail
  obtain ⟨w6, HW6⟩ := name_itV (w5.alloc (.cells #[.int .i64 7] 2))
  have HB6 := Lib.hid (show Below w5.heap.size w5 w6 from by rw [← HW6.out]; exact (Below.refl _ _).alloc (Nat.le_refl _) _)
  have HK6 := Lib.hid (show w6.heap[w5.heap.size]? = some (.cells #[.int .i64 7] 2 (0, 0)) from by rw [← HW6.out]; exact heap_alloc_new w5 _)
  rw [HW6.out]
  refine (eqNums_any [7] [7] (fun b => b < w5.heap.size) (fun _ => True) A5 _ 1 c5 1 1 w6 (HR5.out.under IxR.good HB6.out (fun b hb => hb)) (rd_one HK6.out trivial rfl rfl) (by decide) (by decide)).mono ?_
  rintro e w7 ⟨rfl, m7, hw7⟩
  have HB7 := Lib.hid (show Below w4.heap.size w4 w7 from by rw [hw7]; exact below_drewN (HB5.out.trans (HB6.out.mono HB5.out.size)) m7)
  clear hw7
  rw [show eqI [7] [7] = true from by decide]
  go_wp2_with fail
  obtain ⟨w8, HW8⟩ := name_itV (w7.alloc (.cells #[.string ⟨#[65]⟩] 9))
  have HB8 := Lib.hid (show Below w7.heap.size w7 w8 from by rw [← HW8.out]; exact (Below.refl _ _).alloc (Nat.le_refl _) _)
  have HK8 := Lib.hid (show w8.heap[w7.heap.size]? = some (.cells #[.string ⟨#[65]⟩] 9 (0, 0)) from by rw [← HW8.out]; exact heap_alloc_new w7 _)
  have HB48 := Lib.hid (show Below w4.heap.size w4 w8 from HB7.out.trans (HB8.out.mono HB7.out.size))
  have HS8 := Lib.hid (show StoreAt w8 w3.heap.size p g00 Ns Es mh mt ma mid n0 from HST.out.turn (Turn.of_below HB48.out) (fun b _ h1 h2 => by omega))
  rw [HW8.out]
  have hlb := Lib.hid (nums_one (lab_g00 ▸ labeled_any g00 [⟨#[65]⟩] _ p Ns Es mh mt ma mid n0 (fun b => b < w8.heap.size) (some ⟨w7.heap.size, 0, none⟩) 1 1 w8 HS8.out (fun _ h => h) (rd_one HK8.out (blk_lt HK8.out) rfl rfl) (by decide) (by decide) (fun n hn => by rw [List.mem_singleton.1 hn]; decide)))
  refine hlb.out.mono ?_
  rintro e w9 ⟨A9, c9, rfl, hb9, hr9⟩
  have HB9 := Lib.hid hb9
  have HR9 := Lib.hid hr9
  clear hb9 hr9 hlb
  go_wp2_with fail
  obtain ⟨wa, HWA⟩ := name_itV (w9.alloc (.cells #[.int .i64 1] 2))
  have HBA := Lib.hid (show Below w9.heap.size w9 wa from by rw [← HWA.out]; exact (Below.refl _ _).alloc (Nat.le_refl _) _)
  have HKA := Lib.hid (show wa.heap[w9.heap.size]? = some (.cells #[.int .i64 1] 2 (0, 0)) from by rw [← HWA.out]; exact heap_alloc_new w9 _)
  rw [HWA.out]
  refine (eqNums_any [1] [1] (fun b => b < w9.heap.size) (fun _ => True) A9 _ 1 c9 1 1 wa (HR9.out.under IxR.good HBA.out (fun b hb => hb)) (rd_one HKA.out trivial rfl rfl) (by decide) (by decide)).mono ?_
  rintro e wb ⟨rfl, mb, hwb⟩
  have HBB := Lib.hid (show Below w4.heap.size w4 wb from by
    rw [hwb]
    exact below_drewN (HB48.out.trans ((HB9.out.trans (HBA.out.mono HB9.out.size)).mono HB48.out.size)) mb)
  have HSB := Lib.hid (show StoreAt wb w3.heap.size p g00 Ns Es mh mt ma mid n0 from HST.out.turn (Turn.of_below HBB.out) (fun b _ h1 h2 => by omega))
  clear hwb
  rw [show eqI [1] [1] = true from by decide]
  have hpl := Lib.hid (plain_any g00 _ p Ns Es mh mt ma mid n0 wb HSB.out fit_g00 (fun n hn => by rw [List.mem_singleton.1 hn]; intro q hq; cases hq) (fun n hn => by rw [List.mem_singleton.1 hn]; intro q hq; cases hq))
  go_wp2_with fail
  refine hpl.out.mono ?_
  rintro e wc ⟨A1, c1, B1, d1, ns, es, rfl, hbc, _, _, hae⟩
  have hes : es.length = 1 := hae.1.symm
  rw [hes]
  have HBC := Lib.hid (show Below w.heap.size w wc from HB4.out.trans ((HBB.out.trans (hbc.mono HBB.out.size)).mono HB4.out.size))
  clear hbc hae hes hpl
  have hfd := fieldG (.slice A1 ns.length c1) (.slice B1 1 d1) wc
  go_wp2_with fail
  go_ret
  exact ⟨rfl, HBC.out⟩
end Go.Proofs.YtmhjbicbdahllaaGreatDoor

namespace Go.Proofs.YtmhjbicbdahllaaGreatDoor
open Go Go.RowKit

theorem propsG_all {l : List PairD} : ∀ {ks : List ByteArray}, propsG ks l = true → (∀ p, p ∈ l → textB p.key = true ∧ p.key ∉ ks) ∧ (∀ p q, p ∈ l → q ∈ l → p.key = q.key → p = q) := by
  induction l with
  | nil => intro ks _; exact ⟨fun p hp => (List.not_mem_nil hp).elim, fun p q hp => (List.not_mem_nil hp).elim⟩
  | cons x r ih =>
    intro ks h
    simp only [propsG, Bool.and_eq_true] at h
    obtain ⟨⟨h1, h2, h3⟩, h4⟩ := h
    obtain ⟨i1, i2⟩ := ih h4
    have hx : x.key ∉ ks := fun hm => by rw [inB_yes hm] at h2; cases h2
    constructor
    · intro p hp
      rcases List.mem_cons.1 hp with rfl | hp
      · exact ⟨h1, hx⟩
      · exact ⟨(i1 p hp).1, fun hm => (i1 p hp).2 (List.mem_append_left _ hm)⟩
    · intro p q hp hq e
      rcases List.mem_cons.1 hp with e1 | hp1
      · rcases List.mem_cons.1 hq with e2 | hq2
        · rw [e1, e2]
        · exact absurd (List.mem_append_right ks (List.mem_singleton.2 (by rw [← e, e1]))) (i1 q hq2).2
      · rcases List.mem_cons.1 hq with e2 | hq2
        · exact absurd (List.mem_append_right ks (List.mem_singleton.2 (by rw [e, e2]))) (i1 p hp1).2
        · exact i2 p q hp1 hq2 e
theorem propsB_all {l : List PairD} (h : propsB l = true) : (∀ p, p ∈ l → textB p.key = true) ∧ (∀ p q, p ∈ l → q ∈ l → p.key = q.key → p = q) := by
  unfold propsB at h
  rw [Bool.and_eq_true] at h
  have := propsG_all h.1
  exact ⟨fun p hp => (this.1 p hp).1, this.2⟩
theorem found_key {l ps : List PairD} {q : PairD} {r : Val} (hp : propsB ps = true) (hq : q ∈ ps) (hl : l.Perm ps) (hf : FoundP l q.key r) : r = q.v := by
  rcases hf with ⟨p, h1, h2, h3⟩ | ⟨h1, _⟩
  · rw [h3, (propsB_all hp).2 p q (hl.mem_iff.1 h1) hq h2]
  · exact absurd rfl (h1 q (hl.mem_iff.2 hq))
theorem found_none {l ps : List PairD} {r : Val} (hp : propsB ps = true) (hl : l.Perm ps) (hf : FoundP l ⟨#[]⟩ r) : r = zeroV := by
  rcases hf with ⟨p, h1, h2, h3⟩ | ⟨_, h2⟩
  · have := (propsB_all hp).1 p (hl.mem_iff.1 h1)
    rw [h2] at this
    exact absurd this (by decide)
  · exact h2
theorem found_nil {key : ByteArray} {r : Val} (hf : FoundP [] key r) : r = zeroV := by
  rcases hf with ⟨p, h1, _⟩ | ⟨_, h2⟩
  · cases h1
  · exact h2
theorem props_other {G : GraphD} {k id : Int} {l : List PairD} (h6 : k ≠ 6) (h7 : k ≠ 7) (h : PropsOf G k id l) : l = [] := by
  rcases h with ⟨h, _⟩ | ⟨h, _⟩ | ⟨_, _, h⟩
  · exact absurd h h6
  · exact absurd h h7
  · exact h
theorem nodup_inj {α : Type} {key : α → Int} {l : List α} (hn : (l.map key).Nodup) {x y : α} (hx : x ∈ l) (hy : y ∈ l) (e : key x = key y) : x = y := by
  induction l with
  | nil => cases hx
  | cons a r ih =>
    rw [List.map_cons, List.nodup_cons] at hn
    rcases List.mem_cons.1 hx with e1 | hx1
    · rcases List.mem_cons.1 hy with e2 | hy2
      · rw [e1, e2]
      · exact absurd (List.mem_map.2 ⟨y, hy2, by rw [← e, e1]⟩) hn.1
    · rcases List.mem_cons.1 hy with e2 | hy2
      · exact absurd (List.mem_map.2 ⟨x, hx1, by rw [e, e2]⟩) hn.1
      · exact ih hn.2 hx1 hy2
theorem may_parts {g : GraphD} (hm : mayG g = true) : scanG okN NodeD.id [] g.nodes = true ∧ scanG (okE (g.nodes.map NodeD.id)) EdgeD.id [] g.edges = true := by
  unfold mayG at hm
  rw [Bool.and_eq_true, Bool.and_eq_true] at hm
  exact hm.2
theorem may_node {g : GraphD} (hm : mayG g = true) {n : NodeD} (hn : n ∈ g.nodes) : propsB n.props = true ∧ (lablG [] n.labels = true ∧ n.labels.length ≤ 65536) := by
  obtain ⟨i, hi⟩ := List.mem_iff_getElem?.1 hn
  have h := scan_mem (may_parts hm).1 hi
  unfold okN at h
  simp only [Bool.and_eq_true] at h
  exact ⟨h.2.2.2.2, h.2.2.1, of_decide_eq_true h.2.2.2.1⟩
theorem may_edge {g : GraphD} (hm : mayG g = true) {e : EdgeD} (he : e ∈ g.edges) : propsB e.props = true := by
  obtain ⟨i, hi⟩ := List.mem_iff_getElem?.1 he
  have h := scan_mem (may_parts hm).2 hi
  unfold okE at h
  simp only [Bool.and_eq_true] at h
  exact h.2.2.2.2.2
theorem may_nodupN {g : GraphD} (hm : mayG g = true) : (g.nodes.map NodeD.id).Nodup := scan_nodup (fun _ _ h => okN_new h) List.nodup_nil (may_parts hm).1
theorem may_nodupE {g : GraphD} (hm : mayG g = true) : (g.edges.map EdgeD.id).Nodup := scan_nodup (fun _ _ h => okE_new h) List.nodup_nil (may_parts hm).2
theorem perm_all {α β : Type} {R : α → β → Prop} {l : List α} {m l' : List β} (h : All2 R l m) (hp : l'.Perm m) {y : β} (hy : y ∈ l') : ∃ x, x ∈ l ∧ R x y := h.mem (hp.mem_iff.1 hy)
theorem all_perm {α β : Type} {R : α → β → Prop} {l : List α} {m l' : List β} (h : All2 R l m) (hp : l'.Perm m) {x : α} (hx : x ∈ l) : ∃ y, y ∈ l' ∧ R x y := by
  obtain ⟨i, hi⟩ := List.mem_iff_getElem?.1 hx
  have hl : i < m.length := by rw [← h.1]; exact idx_lt hi
  have hy := List.getElem?_eq_getElem hl
  exact ⟨_, hp.mem_iff.2 (List.mem_of_getElem? hy), h.2 i x _ hi hy⟩
theorem props_node {g g' : GraphD} (hm : mayG g = true) (hs : SrtG g g') {n : NodeD} (hn : n ∈ g.nodes) {l : List PairD} (h : PropsOf g' 6 n.id l) : l.Perm n.props := by
  obtain ⟨⟨m, h1, h2, _⟩, _⟩ := hs
  rcases h with ⟨_, n', hn', hid, rfl⟩ | ⟨h, _⟩ | ⟨h, _⟩
  · obtain ⟨x, hx, hr⟩ := perm_all h1 h2 hn'
    have e : x = n := nodup_inj (may_nodupN hm) hx hn (by rw [← hr.1, hid])
    rw [← e]
    exact hr.2.2.1
  · exact absurd h (by decide)
  · obtain ⟨y, hy, hr⟩ := all_perm h1 h2 hn
    exact absurd (List.mem_map.2 ⟨y, hy, hr.1⟩) (h rfl)
theorem props_edge {g g' : GraphD} (hm : mayG g = true) (hs : SrtG g g') {n : EdgeD} (hn : n ∈ g.edges) {l : List PairD} (h : PropsOf g' 7 n.id l) : l.Perm n.props := by
  obtain ⟨_, ⟨m, h1, h2, _⟩⟩ := hs
  rcases h with ⟨h, _⟩ | ⟨_, n', hn', hid, rfl⟩ | ⟨_, h, _⟩
  · exact absurd h (by decide)
  · obtain ⟨x, hx, hr⟩ := perm_all h1 h2 hn'
    have e : x = n := nodup_inj (may_nodupE hm) hx hn (by rw [← hr.1, hid])
    rw [← e]
    exact hr.2.2.2.2.1
  · obtain ⟨y, hy, hr⟩ := all_perm h1 h2 hn
    exact absurd (List.mem_map.2 ⟨y, hy, hr.1⟩) (h rfl)
/-- All properties of a sorted store are fit to be copied. -/
theorem props_fit {g g' : GraphD} (hm : mayG g = true) (hfit : FitG g) (hs : SrtG g g') {k id : Int} {l : List PairD} (h : PropsOf g' k id l) : l.length ≤ 2000000 ∧ ∀ p, p ∈ l → FlatP p ∧ FitP p := by
  obtain ⟨⟨m, h1, h2, _⟩, ⟨m', h3, h4, _⟩⟩ := hs
  rcases h with ⟨_, n', hn', _, rfl⟩ | ⟨_, n', hn', _, rfl⟩ | ⟨_, _, rfl⟩
  · obtain ⟨x, hx, hr⟩ := perm_all h1 h2 hn'
    have hp : n'.props.Perm x.props := hr.2.2.1
    have hf := (hfit.2.2.1 x hx).1
    exact ⟨by rw [hp.length_eq]; exact hf.2.1, fun p hq => ⟨propsB_flat (may_node hm hx).1 p (hp.mem_iff.1 hq), hf.2.2.2 p (hp.mem_iff.1 hq)⟩⟩
  · obtain ⟨x, hx, hr⟩ := perm_all h3 h4 hn'
    have hp : n'.props.Perm x.props := hr.2.2.2.2.1
    have hf := (hfit.2.2.2 x hx).1
    exact ⟨by rw [hp.length_eq]; exact hf.2.1, fun p hq => ⟨propsB_flat (may_edge hm hx) p (hp.mem_iff.1 hq), hf.2.2 p (hp.mem_iff.1 hq)⟩⟩
  · exact ⟨by simp, fun p hp => by cases hp⟩
theorem srt_len {g g' : GraphD} (hfit : FitG g) (hs : SrtG g g') : g'.nodes.length ≤ 2000000 ∧ g'.edges.length ≤ 2000000 := by
  obtain ⟨⟨m, h1, h2, _⟩, ⟨m', h3, h4, _⟩⟩ := hs
  exact ⟨by rw [h2.length_eq, ← h1.1]; exact hfit.1, by rw [h4.length_eq, ← h3.1]; exact hfit.2.1⟩
end Go.Proofs.YtmhjbicbdahllaaGreatDoor

namespace Go.Proofs.YtmhjbicbdahllaaGreatDoor
open Go Go.RowKit

set_option maxRecDepth 100000 in
set_option maxHeartbeats 1000000 in
theorem eqTexts_same (l : List ByteArray) (F G : Nat → Prop) (A B : Option Addr) (n c1 c2 : Nat) (w : World) (h1 : SRd 1 TxR w F l A n) (h2 : SRd 1 TxR w G l B n) (hn : n ≤ 1000000000) :
    Calls Tryz.prog 65 #[.slice A n c1, .slice B n c2] w (ToldBd true w) := by
  have H1 := Lib.hid h1
  have H2 := Lib.hid h2
  have L1 := Lib.hid h1.1
  clear h1 h2
  have t0 : ((n : Int) != n) = false := bne_self_eq_false _
  go_enter Tryz.func65, Tryz.ntmps65
  go_wp2_with fail
  go_loopw [5] (fun s5 wx => ∃ k q : Nat, k ≤ n ∧ s5 = .int .i64 (k : Nat) ∧ Hid (wx = w.drewN q)) (fun s5 _ => n - (intOf s5).toNat)
  case atStart => exact ⟨0, 0, by omega, rfl, Lib.hid rfl⟩
  case round =>
    obtain ⟨k, q, hk, rfl, hM⟩ := hrel
    by_cases hlt : k < n
    · obtain ⟨x, hx⟩ : ∃ x, l[k]? = some x := ⟨l[k]'(by rw [← L1.out]; exact hlt), List.getElem?_eq_getElem _⟩
      obtain ⟨ad, rfl, _, q0⟩ := textAt (H1.out.keep TxR.good (w' := wr) (fun p _ => by rw [hM.out]; rfl)) hx
      obtain ⟨bd, rfl, _, q1⟩ := textAt (H2.out.keep TxR.good (w' := wr) (fun p _ => by rw [hM.out]; rfl)) hx
      clear hx
      have e1 : (0 : Int) ≤ k := by omega
      have e2 : (k : Int) < n := by omega
      have w1 : IntKind.i64.wrap ((k : Int) + 1) = (k : Int) + 1 := IntWalk.i64_in _ (by omega)
      have u1 : (x.toList != x.toList) = false := bne_self_eq_false _
      go_upto_region 6 with fail
      go_quiet (fail)
      have HW := Lib.hid (show wr.drewN nq = w.drewN (q + nq) by rw [hM.out, World.drewN_drewN])
      clear hM
      go_wp2_with fail
      go_roundw
      case rel => exact ⟨k + 1, q + nq, by omega, by go_num, HW⟩
      case measure => simp [intOf]; omega
    · have hke : n = k := by omega
      subst hke
      go_wp2_with fail
      go_ret
      exact ⟨rfl, q, hM.out⟩
set_option maxRecDepth 100000 in
set_option maxHeartbeats 4000000 in
theorem eqProps_same (l : List PairD) (hfit : ∀ p, p ∈ l → FitP p) (F G : Nat → Prop) (A B : Option Addr) (n c1 c2 : Nat) (w : World) (hF : ∀ b, F b → b < w.heap.size) (hG : ∀ b, G b → b < w.heap.size) (h1 : SRd 7 PaR w F l A n) (h2 : SRd 7 PaR w G l B n) (hn : n ≤ 1000000000) :
    Calls Tryz.prog 66 #[.slice A n c1, .slice B n c2] w (ToldB true w) := by
  have H1 := Lib.hid (h1.mono PaR.good hF)
  have H2 := Lib.hid (h2.mono PaR.good hG)
  have L1 := Lib.hid h1.1
  have HFIT := Lib.hid hfit
  clear h1 h2 hF hG hfit
  have t0 : ((n : Int) != n) = false := bne_self_eq_false _
  go_enter Tryz.func66, Tryz.ntmps66
  go_wp2_with fail
  go_loopw [5] (fun s5 wx => ∃ k : Nat, k ≤ n ∧ s5 = .int .i64 (k : Nat) ∧ Hid (Below w.heap.size w wx)) (fun s5 _ => n - (intOf s5).toNat)
  case atStart => exact ⟨0, by omega, rfl, Lib.hid (Below.refl _ _)⟩
  case round =>
    obtain ⟨k, hk, rfl, hM⟩ := hrel
    by_cases hlt : k < n
    · obtain ⟨x, hx⟩ : ∃ x, l[k]? = some x := ⟨l[k]'(by rw [← L1.out]; exact hlt), List.getElem?_eq_getElem _⟩
      have HFX := Lib.hid (HFIT.out x (List.mem_of_getElem? hx))
      have hszr : w.heap.size ≤ wr.heap.size := hM.out.size
      obtain ⟨ad, s, rfl, hFp, hv, p0, p1, p2, p3, p4, p5, p6⟩ := pairsAt (H1.out.under PaR.good hM.out (fun b hb => hb)) hx
      obtain ⟨bd, s2, rfl, hGp, hv2, q0, q1, q2, q3, q4, q5, q6⟩ := pairsAt (H2.out.under PaR.good hM.out (fun b hb => hb)) hx
      obtain ⟨B1, cb1, hu, _, _⟩ := hv.inv
      injection hu with hu
      obtain rfl : s = .slice B1 x.v.list.length cb1 := by
        have := congrArg (fun a : Array Value => a[5]?) hu
        simpa [cellsV] using this
      obtain ⟨B2, cb2, hu2, _, _⟩ := hv2.inv
      injection hu2 with hu2
      obtain rfl : s2 = .slice B2 x.v.list.length cb2 := by
        have := congrArg (fun a : Array Value => a[5]?) hu2
        simpa [cellsV] using this
      have PL := Lib.hid (show (ad.add (k * 7)).block < wr.drew.heap.size from by rw [block_of_add]; exact Nat.lt_of_lt_of_le hFp hszr)
      have QL := Lib.hid (show (bd.add (k * 7)).block < wr.drew.heap.size from by rw [block_of_add]; exact Nat.lt_of_lt_of_le hGp hszr)
      have hsame := sameV_any x.v x.v (by have := HFX.out.2; omega) (fun b => b < w.heap.size) (fun b => b < w.heap.size) (.agg (cellsV x.v (.slice B1 x.v.list.length cb1))) (.agg (cellsV x.v (.slice B2 x.v.list.length cb2))) wr.drew (fun b hb => Nat.lt_of_lt_of_le hb hszr) (fun b hb => Nat.lt_of_lt_of_le hb hszr) (hv.keep (fun _ _ => rfl)) (hv2.keep (fun _ _ => rfl))
      rw [sameB_refl] at hsame
      unfold cellsV at hsame
      obtain ⟨lx, Hlx⟩ := name_itV x.v.list.length
      rw [Hlx.out] at p6 q6 hsame
      have HSM := Lib.hid hsame
      have PP := Lib.hid (And.intro p0 (And.intro p1 (And.intro p2 (And.intro p3 (And.intro p4 (And.intro p5 p6))))))
      have QP := Lib.hid (And.intro q0 (And.intro q1 (And.intro q2 (And.intro q3 (And.intro q4 (And.intro q5 q6))))))
      have HSS := Lib.hid (fun (W : World) (hW : Below wr.drew.heap.size wr.drew W) => (show W.cell? (ad.add (k * 7)) = some (.string x.key) ∧ W.cell? ⟨(ad.add (k * 7)).block, (ad.add (k * 7)).off + 1, none⟩ = some (.int .i64 x.v.kind) ∧ W.cell? ⟨(ad.add (k * 7)).block, (ad.add (k * 7)).off + 2, none⟩ = some (.bool x.v.truth) ∧ W.cell? ⟨(ad.add (k * 7)).block, (ad.add (k * 7)).off + 3, none⟩ = some (.int .i64 x.v.num) ∧ W.cell? ⟨(ad.add (k * 7)).block, (ad.add (k * 7)).off + 4, none⟩ = some (.string x.v.text) ∧ W.cell? ⟨(ad.add (k * 7)).block, (ad.add (k * 7)).off + 5, none⟩ = some (.string x.v.extra) ∧ W.cell? ⟨(ad.add (k * 7)).block, (ad.add (k * 7)).off + 6, none⟩ = some (.slice B1 lx cb1) ∧ W.cell? (bd.add (k * 7)) = some (.string x.key) ∧ W.cell? ⟨(bd.add (k * 7)).block, (bd.add (k * 7)).off + 1, none⟩ = some (.int .i64 x.v.kind) ∧ W.cell? ⟨(bd.add (k * 7)).block, (bd.add (k * 7)).off + 2, none⟩ = some (.bool x.v.truth) ∧ W.cell? ⟨(bd.add (k * 7)).block, (bd.add (k * 7)).off + 3, none⟩ = some (.int .i64 x.v.num) ∧ W.cell? ⟨(bd.add (k * 7)).block, (bd.add (k * 7)).off + 4, none⟩ = some (.string x.v.text) ∧ W.cell? ⟨(bd.add (k * 7)).block, (bd.add (k * 7)).off + 5, none⟩ = some (.string x.v.extra) ∧ W.cell? ⟨(bd.add (k * 7)).block, (bd.add (k * 7)).off + 6, none⟩ = some (.slice B2 lx cb2) from ⟨(hW.cell (p := ad.add (k * 7)) PL.out).trans PP.out.1, (hW.cell (p := ⟨(ad.add (k * 7)).block, (ad.add (k * 7)).off + 1, none⟩) PL.out).trans PP.out.2.1, (hW.cell (p := ⟨(ad.add (k * 7)).block, (ad.add (k * 7)).off + 2, none⟩) PL.out).trans PP.out.2.2.1, (hW.cell (p := ⟨(ad.add (k * 7)).block, (ad.add (k * 7)).off + 3, none⟩) PL.out).trans PP.out.2.2.2.1, (hW.cell (p := ⟨(ad.add (k * 7)).block, (ad.add (k * 7)).off + 4, none⟩) PL.out).trans PP.out.2.2.2.2.1, (hW.cell (p := ⟨(ad.add (k * 7)).block, (ad.add (k * 7)).off + 5, none⟩) PL.out).trans PP.out.2.2.2.2.2.1, (hW.cell (p := ⟨(ad.add (k * 7)).block, (ad.add (k * 7)).off + 6, none⟩) PL.out).trans PP.out.2.2.2.2.2.2, (hW.cell (p := bd.add (k * 7)) QL.out).trans QP.out.1, (hW.cell (p := ⟨(bd.add (k * 7)).block, (bd.add (k * 7)).off + 1, none⟩) QL.out).trans QP.out.2.1, (hW.cell (p := ⟨(bd.add (k * 7)).block, (bd.add (k * 7)).off + 2, none⟩) QL.out).trans QP.out.2.2.1, (hW.cell (p := ⟨(bd.add (k * 7)).block, (bd.add (k * 7)).off + 3, none⟩) QL.out).trans QP.out.2.2.2.1, (hW.cell (p := ⟨(bd.add (k * 7)).block, (bd.add (k * 7)).off + 4, none⟩) QL.out).trans QP.out.2.2.2.2.1, (hW.cell (p := ⟨(bd.add (k * 7)).block, (bd.add (k * 7)).off + 5, none⟩) QL.out).trans QP.out.2.2.2.2.2.1, (hW.cell (p := ⟨(bd.add (k * 7)).block, (bd.add (k * 7)).off + 6, none⟩) QL.out).trans QP.out.2.2.2.2.2.2⟩))
      have s1 := Lib.hid (HSS.out wr.drew (Below.refl _ _))
      have HBr := Lib.hid (show Below w.heap.size w wr.drew from hM.out.drew)
      have e1 : (0 : Int) ≤ k := by omega
      have e2 : (k : Int) < n := by omega
      have w1 : IntKind.i64.wrap ((k : Int) + 1) = (k : Int) + 1 := IntWalk.i64_in _ (by omega)
      have u1 : (x.key.toList != x.key.toList) = false := bne_self_eq_false _
      clear hx hFp hGp hv hv2 hu hu2 hsame hM hszr
      go_upto_region 6 with fail
      clear p0 p1 p2 p3 p4 p5 p6 q0 q1 q2 q3 q4 q5 q6
      go_region_held3 (fun W' => W'.cell? (ad.add (k * 7)) = some (.string x.key) ∧ W'.cell? ⟨(ad.add (k * 7)).block, (ad.add (k * 7)).off + 1, none⟩ = some (.int .i64 x.v.kind) ∧ W'.cell? ⟨(ad.add (k * 7)).block, (ad.add (k * 7)).off + 2, none⟩ = some (.bool x.v.truth) ∧ W'.cell? ⟨(ad.add (k * 7)).block, (ad.add (k * 7)).off + 3, none⟩ = some (.int .i64 x.v.num) ∧ W'.cell? ⟨(ad.add (k * 7)).block, (ad.add (k * 7)).off + 4, none⟩ = some (.string x.v.text) ∧ W'.cell? ⟨(ad.add (k * 7)).block, (ad.add (k * 7)).off + 5, none⟩ = some (.string x.v.extra) ∧ W'.cell? ⟨(ad.add (k * 7)).block, (ad.add (k * 7)).off + 6, none⟩ = some (.slice B1 lx cb1) ∧ W'.cell? (bd.add (k * 7)) = some (.string x.key) ∧ W'.cell? ⟨(bd.add (k * 7)).block, (bd.add (k * 7)).off + 1, none⟩ = some (.int .i64 x.v.kind) ∧ W'.cell? ⟨(bd.add (k * 7)).block, (bd.add (k * 7)).off + 2, none⟩ = some (.bool x.v.truth) ∧ W'.cell? ⟨(bd.add (k * 7)).block, (bd.add (k * 7)).off + 3, none⟩ = some (.int .i64 x.v.num) ∧ W'.cell? ⟨(bd.add (k * 7)).block, (bd.add (k * 7)).off + 4, none⟩ = some (.string x.v.text) ∧ W'.cell? ⟨(bd.add (k * 7)).block, (bd.add (k * 7)).off + 5, none⟩ = some (.string x.v.extra) ∧ W'.cell? ⟨(bd.add (k * 7)).block, (bd.add (k * 7)).off + 6, none⟩ = some (.slice B2 lx cb2)) (first | exact s1.out | exact s2.out | (trace_state; fail))
        (first
          | (go_at_call 21; (with_reducible refine HSM.out.mono ?_); rintro e w8 ⟨rfl, hb8⟩; have HB8 := Lib.hid (show Below wr.drew.heap.size wr.drew w8 from hb8); have s2 := Lib.hid (HSS.out w8 HB8.out); clear hb8))
      have HB9 := Lib.hid (HBr.out.trans (HB8.out.mono HBr.out.size))
      go_wp2_with fail
      go_roundw
      case rel => exact ⟨k + 1, by omega, by go_num, HB9⟩
      case measure => simp [intOf]; omega
    · have hke : n = k := by omega
      subst hke
      go_wp2_with fail
      go_ret
      exact ⟨rfl, hM.out⟩
end Go.Proofs.YtmhjbicbdahllaaGreatDoor

namespace Go.Proofs.YtmhjbicbdahllaaGreatDoor
open Go Go.RowKit

set_option maxRecDepth 100000 in
set_option maxHeartbeats 2000000 in
theorem eqNode_same (x : NodeD) (hfit : FitN x) (F G : Nat → Prop) (u1 u2 : Value) (w : World) (hF : ∀ b, F b → b < w.heap.size) (hG : ∀ b, G b → b < w.heap.size) {c1 c2 : Array Value} (e1 : u1 = .agg c1) (e2 : u2 = .agg c2) (h1 : NoR w F x c1) (h2 : NoR w G x c2) :
    Calls Tryz.prog 40 #[u1, u2] w (ToldB true w) := by
  obtain ⟨_, _, rfl, ⟨A1, a1, rfl, _, l1⟩, A2, a2, rfl, _, l2⟩ := h1
  obtain ⟨_, _, rfl, ⟨B1, b1, rfl, _, m1⟩, B2, b2, rfl, _, m2⟩ := h2
  subst e1 e2
  obtain ⟨id, Hid1⟩ := name_itV x.id
  obtain ⟨n1, Hn1⟩ := name_itV x.labels.length
  obtain ⟨n2, Hn2⟩ := name_itV x.props.length
  have hn1 : n1 ≤ 2000000 := by rw [← Hn1.out]; exact hfit.1
  have hn2 : n2 ≤ 2000000 := by rw [← Hn2.out]; exact hfit.2.1
  rw [Hid1.out, Hn1.out, Hn2.out]
  rw [Hn1.out] at l1 m1
  rw [Hn2.out] at l2 m2
  obtain ⟨z, HZ⟩ := name_itV w.heap.size
  obtain ⟨w2, HW2⟩ := name_itV ((w.alloc (.cells #[.int .i64 id, .slice A1 n1 a1, .slice A2 n2 a2] 38)).alloc (.cells #[.int .i64 id, .slice B1 n1 b1, .slice B2 n2 b2] 38))
  have HB2 := Lib.hid (show Below w.heap.size w w2 from by rw [← HW2.out]; exact two_new w _ _)
  have HK0 := Lib.hid (show w2.heap[z]? = some (.cells #[.int .i64 id, .slice A1 n1 a1, .slice A2 n2 a2] 38 (0, 0)) from by
    rw [← HW2.out, Below.heap_alloc _ _ _ (by rw [← HZ.out]; simp), ← HZ.out]
    exact heap_alloc_new w _)
  have HK1 := Lib.hid (show w2.heap[z + 1]? = some (.cells #[.int .i64 id, .slice B1 n1 b1, .slice B2 n2 b2] 38 (0, 0)) from by
    have := heap_alloc_new (w.alloc (.cells #[.int .i64 id, .slice A1 n1 a1, .slice A2 n2 a2] 38)) (.cells #[.int .i64 id, .slice B1 n1 b1, .slice B2 n2 b2] 38)
    rw [HW2.out] at this
    simpa [HZ.out] using this)
  have hct := Lib.hid (eqTexts_same x.labels F G A1 B1 n1 a1 b1 w2 (l1.under TxR.good HB2.out hF) (m1.under TxR.good HB2.out hG) (by omega))
  have HCP := Lib.hid (fun (W : World) (hW : Below w.heap.size w W) => eqProps_same x.props hfit.2.2.2 F G A2 B2 n2 a2 b2 W (fun b hb => Nat.lt_of_lt_of_le (hF b hb) hW.size) (fun b hb => Nat.lt_of_lt_of_le (hG b hb) hW.size) (l2.under PaR.good hW hF) (m2.under PaR.good hW hG) (by omega))
  have x0 : w2.cell? ⟨z, 0, none⟩ = some (.int .i64 id) := Lib.cell_of_heap HK0.out 0
  have x1 : w2.cell? ⟨z, 1, none⟩ = some (.slice A1 n1 a1) := Lib.cell_of_heap HK0.out 1
  have y0 : w2.cell? ⟨z + 1, 0, none⟩ = some (.int .i64 id) := Lib.cell_of_heap HK1.out 0
  have y1 : w2.cell? ⟨z + 1, 1, none⟩ = some (.slice B1 n1 b1) := Lib.cell_of_heap HK1.out 1
  have t0 : (id == id) = true := beq_self_eq_true id
  clear l1 m1 l2 m2 hF hG hfit
  go_enter Tryz.func40, Tryz.ntmps40
  go_upto_region 1 with fail
  rw [HW2.out, HZ.out]
  go_wp2_with fail
  refine hct.out.mono ?_
  rintro e w3 ⟨rfl, m3, hw3⟩
  have HB3 := Lib.hid (show Below w.heap.size w w3 from by rw [hw3]; exact below_drewN HB2.out m3)
  have x2 : w3.cell? ⟨z, 2, none⟩ = some (.slice A2 n2 a2) := by rw [hw3]; exact Lib.cell_of_heap HK0.out 2
  have y2 : w3.cell? ⟨z + 1, 2, none⟩ = some (.slice B2 n2 b2) := by rw [hw3]; exact Lib.cell_of_heap HK1.out 2
  clear hw3 x0 x1 y0 y1
  go_wp2_with fail
  refine (HCP.out w3 HB3.out).mono ?_
  rintro e w4 ⟨rfl, hb4⟩
  have HB4 := Lib.hid (HB3.out.trans (hb4.mono HB3.out.size))
  clear hb4 x2 y2
  go_wp2_with fail
  go_ret
  exact ⟨rfl, HB4.out⟩
set_option maxRecDepth 100000 in
set_option maxHeartbeats 2000000 in
theorem eqEdge_same (x : EdgeD) (hfit : FitE x) (F G : Nat → Prop) (u1 u2 : Value) (w : World) (hF : ∀ b, F b → b < w.heap.size) (hG : ∀ b, G b → b < w.heap.size) {c1 c2 : Array Value} (e1 : u1 = .agg c1) (e2 : u2 = .agg c2) (h1 : EdR w F x c1) (h2 : EdR w G x c2) :
    Calls Tryz.prog 41 #[u1, u2] w (ToldB true w) := by
  obtain ⟨_, rfl, A2, a2, rfl, _, l2⟩ := h1
  obtain ⟨_, rfl, B2, b2, rfl, _, m2⟩ := h2
  subst e1 e2
  obtain ⟨id, Hid1⟩ := name_itV x.id
  obtain ⟨src, Hsrc⟩ := name_itV x.src
  obtain ⟨dst, Hdst⟩ := name_itV x.dst
  obtain ⟨typ, Htyp⟩ := name_itV x.type
  obtain ⟨n2, Hn2⟩ := name_itV x.props.length
  have hn2 : n2 ≤ 2000000 := by rw [← Hn2.out]; exact hfit.2.1
  rw [Hid1.out, Hsrc.out, Hdst.out, Htyp.out, Hn2.out]
  rw [Hn2.out] at l2 m2
  obtain ⟨z, HZ⟩ := name_itV w.heap.size
  obtain ⟨w2, HW2⟩ := name_itV ((w.alloc (.cells #[.int .i64 id, .int .i64 src, .int .i64 dst, .string typ, .slice A2 n2 a2] 41)).alloc (.cells #[.int .i64 id, .int .i64 src, .int .i64 dst, .string typ, .slice B2 n2 b2] 41))
  have HB2 := Lib.hid (show Below w.heap.size w w2 from by rw [← HW2.out]; exact two_new w _ _)
  have HK0 := Lib.hid (show w2.heap[z]? = some (.cells #[.int .i64 id, .int .i64 src, .int .i64 dst, .string typ, .slice A2 n2 a2] 41 (0, 0)) from by
    rw [← HW2.out, Below.heap_alloc _ _ _ (by rw [← HZ.out]; simp), ← HZ.out]
    exact heap_alloc_new w _)
  have HK1 := Lib.hid (show w2.heap[z + 1]? = some (.cells #[.int .i64 id, .int .i64 src, .int .i64 dst, .string typ, .slice B2 n2 b2] 41 (0, 0)) from by
    have := heap_alloc_new (w.alloc (.cells #[.int .i64 id, .int .i64 src, .int .i64 dst, .string typ, .slice A2 n2 a2] 41)) (.cells #[.int .i64 id, .int .i64 src, .int .i64 dst, .string typ, .slice B2 n2 b2] 41)
    rw [HW2.out] at this
    simpa [HZ.out] using this)
  have hcp := Lib.hid (eqProps_same x.props hfit.2.2 F G A2 B2 n2 a2 b2 w2 (fun b hb => Nat.lt_of_lt_of_le (hF b hb) HB2.out.size) (fun b hb => Nat.lt_of_lt_of_le (hG b hb) HB2.out.size) (l2.under PaR.good HB2.out hF) (m2.under PaR.good HB2.out hG) (by omega))
  have x0 : w2.cell? ⟨z, 0, none⟩ = some (.int .i64 id) := Lib.cell_of_heap HK0.out 0
  have x1 : w2.cell? ⟨z, 1, none⟩ = some (.int .i64 src) := Lib.cell_of_heap HK0.out 1
  have x2 : w2.cell? ⟨z, 2, none⟩ = some (.int .i64 dst) := Lib.cell_of_heap HK0.out 2
  have x3 : w2.cell? ⟨z, 3, none⟩ = some (.string typ) := Lib.cell_of_heap HK0.out 3
  have x4 : w2.cell? ⟨z, 4, none⟩ = some (.slice A2 n2 a2) := Lib.cell_of_heap HK0.out 4
  have y0 : w2.cell? ⟨z + 1, 0, none⟩ = some (.int .i64 id) := Lib.cell_of_heap HK1.out 0
  have y1 : w2.cell? ⟨z + 1, 1, none⟩ = some (.int .i64 src) := Lib.cell_of_heap HK1.out 1
  have y2 : w2.cell? ⟨z + 1, 2, none⟩ = some (.int .i64 dst) := Lib.cell_of_heap HK1.out 2
  have y3 : w2.cell? ⟨z + 1, 3, none⟩ = some (.string typ) := Lib.cell_of_heap HK1.out 3
  have y4 : w2.cell? ⟨z + 1, 4, none⟩ = some (.slice B2 n2 b2) := Lib.cell_of_heap HK1.out 4
  have t0 : (id == id) = true := beq_self_eq_true id
  have t1 : (src == src) = true := beq_self_eq_true src
  have t2 : (dst == dst) = true := beq_self_eq_true dst
  have t3 : (typ.toList == typ.toList) = true := beq_self_eq_true typ.toList
  clear l2 m2 hF hG hfit
  go_enter Tryz.func41, Tryz.ntmps41
  go_upto_region 1 with fail
  rw [HW2.out, HZ.out]
  go_wp2_with fail
  refine hcp.out.mono ?_
  rintro e w4 ⟨rfl, hb4⟩
  have HB4 := Lib.hid (HB2.out.trans (hb4.mono HB2.out.size))
  clear hb4
  go_wp2_with fail
  go_ret
  exact ⟨rfl, HB4.out⟩
end Go.Proofs.YtmhjbicbdahllaaGreatDoor

namespace Go.Proofs.YtmhjbicbdahllaaGreatDoor
open Go Go.RowKit

set_option maxRecDepth 100000 in
set_option maxHeartbeats 8000000 in
theorem eqGraph_same (g : GraphD) (hfit : FitG g) (F G : Nat → Prop) (u1 u2 : Value) (w : World) (hF : ∀ b, F b → b < w.heap.size) (hG : ∀ b, G b → b < w.heap.size) (h1 : GrR w F g u1) (h2 : GrR w G g u2) :
    Calls Tryz.prog 11 #[u1, u2] w (ToldB true w) := by
  obtain ⟨_, _, rfl, ⟨AN, cN, rfl, _, l1⟩, AE, cE, rfl, _, l2⟩ := h1
  obtain ⟨_, _, rfl, ⟨BN, dN, rfl, _, m1⟩, BE, dE, rfl, _, m2⟩ := h2
  have HFIT := Lib.hid hfit
  obtain ⟨nN, HnN⟩ := name_itV g.nodes.length
  obtain ⟨nE, HnE⟩ := name_itV g.edges.length
  have hn1 : nN ≤ 2000000 := by rw [← HnN.out]; exact hfit.1
  have hn2 : nE ≤ 2000000 := by rw [← HnE.out]; exact hfit.2.1
  rw [HnN.out, HnE.out]
  rw [HnN.out] at l1 m1
  rw [HnE.out] at l2 m2
  obtain ⟨z, HZ⟩ := name_itV w.heap.size
  obtain ⟨w2, HW2⟩ := name_itV ((w.alloc (.cells #[.slice AN nN cN, .slice AE nE cE] 25)).alloc (.cells #[.slice BN nN dN, .slice BE nE dE] 25))
  have HB2 := Lib.hid (show Below w.heap.size w w2 from by rw [← HW2.out]; exact two_new w _ _)
  have HK0 := Lib.hid (show w2.heap[z]? = some (.cells #[.slice AN nN cN, .slice AE nE cE] 25 (0, 0)) from by
    rw [← HW2.out, Below.heap_alloc _ _ _ (by rw [← HZ.out]; simp), ← HZ.out]
    exact heap_alloc_new w _)
  have HK1 := Lib.hid (show w2.heap[z + 1]? = some (.cells #[.slice BN nN dN, .slice BE nE dE] 25 (0, 0)) from by
    have := heap_alloc_new (w.alloc (.cells #[.slice AN nN cN, .slice AE nE cE] 25)) (.cells #[.slice BN nN dN, .slice BE nE dE] 25)
    rw [HW2.out] at this
    simpa [HZ.out] using this)
  have HS2 := Lib.hid (And.intro (blk_lt HK0.out) (blk_lt HK1.out))
  have HNA := Lib.hid ((l1.under NoR.good HB2.out hF).mono NoR.good (F' := fun b => b < w2.heap.size) (fun b hb => Nat.lt_of_lt_of_le (hF b hb) HB2.out.size))
  have HNB := Lib.hid ((m1.under NoR.good HB2.out hG).mono NoR.good (F' := fun b => b < w2.heap.size) (fun b hb => Nat.lt_of_lt_of_le (hG b hb) HB2.out.size))
  have HEA := Lib.hid ((l2.under EdR.good HB2.out hF).mono EdR.good (F' := fun b => b < w2.heap.size) (fun b hb => Nat.lt_of_lt_of_le (hF b hb) HB2.out.size))
  have HEB := Lib.hid ((m2.under EdR.good HB2.out hG).mono EdR.good (F' := fun b => b < w2.heap.size) (fun b hb => Nat.lt_of_lt_of_le (hG b hb) HB2.out.size))
  have x0 : w2.cell? ⟨z, 0, none⟩ = some (.slice AN nN cN) := Lib.cell_of_heap HK0.out 0
  have x1 : w2.cell? ⟨z, 1, none⟩ = some (.slice AE nE cE) := Lib.cell_of_heap HK0.out 1
  have y0 : w2.cell? ⟨z + 1, 0, none⟩ = some (.slice BN nN dN) := Lib.cell_of_heap HK1.out 0
  have y1 : w2.cell? ⟨z + 1, 1, none⟩ = some (.slice BE nE dE) := Lib.cell_of_heap HK1.out 1
  have t0 : ((nN : Int) != nN) = false := bne_self_eq_false _
  have t1 : ((nE : Int) != nE) = false := bne_self_eq_false _
  clear l1 m1 l2 m2 hF hG hfit
  go_enter Tryz.func11, Tryz.ntmps11
  go_upto_region 1 with fail
  rw [HW2.out, HZ.out]
  go_upto_region 3 with fail
  go_wp2_with fail
  clear x0 x1 y0 y1 t0 t1
  go_loopw [5] (fun s wx => ∃ k : Nat, k ≤ nN ∧ s = .int .i64 (k : Nat) ∧ Hid (Below w2.heap.size w2 wx)) (fun s _ => nN - (intOf s).toNat)
  case atStart => exact ⟨0, by omega, rfl, Lib.hid (Below.refl _ _)⟩
  case round =>
    obtain ⟨k, hk, rfl, hM⟩ := hrel
    have hka := (hM.out.block z HS2.out.1).trans HK0.out
    have hkb := (hM.out.block (z + 1) HS2.out.2).trans HK1.out
    have x0 : wr.cell? ⟨z, 0, none⟩ = some (.slice AN nN cN) := Lib.cell_of_heap hka 0
    have y0 : wr.cell? ⟨z + 1, 0, none⟩ = some (.slice BN nN dN) := Lib.cell_of_heap hkb 0
    by_cases hlt : k < nN
    · obtain ⟨x, hx⟩ : ∃ x, g.nodes[k]? = some x := ⟨g.nodes[k]'(by rw [HnN.out]; exact hlt), List.getElem?_eq_getElem _⟩
      have HFX := Lib.hid (HFIT.out.2.2.1 x (List.mem_of_getElem? hx)).1
      have hszr : w2.heap.size ≤ wr.heap.size := hM.out.size
      obtain ⟨ad, A1, a1, A2, a2, rfl, hFa, hNa, _, _, p0, p1, p2⟩ := nodesAt (HNA.out.under NoR.good hM.out (fun b hb => hb)) hx
      obtain ⟨bd, B1, b1, B2, b2, rfl, hFb, hNb, _, _, q0, q1, q2⟩ := nodesAt (HNB.out.under NoR.good hM.out (fun b hb => hb)) hx
      have hsm := eqNode_same x HFX.out (fun b => b < w2.heap.size) (fun b => b < w2.heap.size) _ _ wr.drew (fun b hb => Nat.lt_of_lt_of_le hb hszr) (fun b hb => Nat.lt_of_lt_of_le hb hszr) rfl rfl (NoR.good.keep hNa (w' := wr.drew) (fun _ _ => rfl)) (NoR.good.keep hNb (w' := wr.drew) (fun _ _ => rfl))
      obtain ⟨id, Hid1⟩ := name_itV x.id
      obtain ⟨m1, Hm1⟩ := name_itV x.labels.length
      obtain ⟨m2, Hm2⟩ := name_itV x.props.length
      rw [Hid1.out, Hm1.out, Hm2.out] at hsm
      rw [Hid1.out] at p0
      rw [Hm1.out] at p1
      rw [Hm2.out] at p2
      rw [Hid1.out] at q0
      rw [Hm1.out] at q1
      rw [Hm2.out] at q2
      have HSM := Lib.hid hsm
      have PP := Lib.hid (And.intro p0 (And.intro p1 p2))
      have QP := Lib.hid (And.intro q0 (And.intro q1 q2))
      have HBX := Lib.hid (And.intro x0 y0)
      have HZL := Lib.hid (And.intro (show z < wr.drew.heap.size from Nat.lt_of_lt_of_le HS2.out.1 hszr) (show z + 1 < wr.drew.heap.size from Nat.lt_of_lt_of_le HS2.out.2 hszr))
      have PL := Lib.hid (show (ad.add (k * 3)).block < wr.drew.heap.size from by rw [block_of_add]; exact Nat.lt_of_lt_of_le hFa hszr)
      have QL := Lib.hid (show (bd.add (k * 3)).block < wr.drew.heap.size from by rw [block_of_add]; exact Nat.lt_of_lt_of_le hFb hszr)
      have HSS := Lib.hid (fun (W : World) (hW : Below wr.drew.heap.size wr.drew W) => (show W.cell? ⟨z, 0, none⟩ = some (.slice (some ad) nN cN) ∧ W.cell? ⟨z + 1, 0, none⟩ = some (.slice (some bd) nN dN) ∧ W.cell? (ad.add (k * 3)) = some (.int .i64 id) ∧ W.cell? ⟨(ad.add (k * 3)).block, (ad.add (k * 3)).off + 1, none⟩ = some (.slice A1 m1 a1) ∧ W.cell? ⟨(ad.add (k * 3)).block, (ad.add (k * 3)).off + 2, none⟩ = some (.slice A2 m2 a2) ∧ W.cell? (bd.add (k * 3)) = some (.int .i64 id) ∧ W.cell? ⟨(bd.add (k * 3)).block, (bd.add (k * 3)).off + 1, none⟩ = some (.slice B1 m1 b1) ∧ W.cell? ⟨(bd.add (k * 3)).block, (bd.add (k * 3)).off + 2, none⟩ = some (.slice B2 m2 b2) from ⟨(hW.cell (p := ⟨z, 0, none⟩) HZL.out.1).trans HBX.out.1, (hW.cell (p := ⟨z + 1, 0, none⟩) HZL.out.2).trans HBX.out.2, (hW.cell (p := ad.add (k * 3)) PL.out).trans PP.out.1, (hW.cell (p := ⟨(ad.add (k * 3)).block, (ad.add (k * 3)).off + 1, none⟩) PL.out).trans PP.out.2.1, (hW.cell (p := ⟨(ad.add (k * 3)).block, (ad.add (k * 3)).off + 2, none⟩) PL.out).trans PP.out.2.2, (hW.cell (p := bd.add (k * 3)) QL.out).trans QP.out.1, (hW.cell (p := ⟨(bd.add (k * 3)).block, (bd.add (k * 3)).off + 1, none⟩) QL.out).trans QP.out.2.1, (hW.cell (p := ⟨(bd.add (k * 3)).block, (bd.add (k * 3)).off + 2, none⟩) QL.out).trans QP.out.2.2⟩))
      have s1 := Lib.hid (HSS.out wr.drew (Below.refl _ _))
      have HBr := Lib.hid (show Below w2.heap.size w2 wr.drew from hM.out.drew)
      have e1 : (0 : Int) ≤ k := by omega
      have e2 : (k : Int) < nN := by omega
      have w1 : IntKind.i64.wrap ((k : Int) + 1) = (k : Int) + 1 := IntWalk.i64_in _ (by omega)
      clear hx hFa hFb hNa hNb hsm hM hszr hka hkb
      go_upto_region 6 with fail
      clear p0 p1 p2 q0 q1 q2 x0 y0
      go_region_held3 (fun W' => W'.cell? ⟨z, 0, none⟩ = some (.slice (some ad) nN cN) ∧ W'.cell? ⟨z + 1, 0, none⟩ = some (.slice (some bd) nN dN) ∧ W'.cell? (ad.add (k * 3)) = some (.int .i64 id) ∧ W'.cell? ⟨(ad.add (k * 3)).block, (ad.add (k * 3)).off + 1, none⟩ = some (.slice A1 m1 a1) ∧ W'.cell? ⟨(ad.add (k * 3)).block, (ad.add (k * 3)).off + 2, none⟩ = some (.slice A2 m2 a2) ∧ W'.cell? (bd.add (k * 3)) = some (.int .i64 id) ∧ W'.cell? ⟨(bd.add (k * 3)).block, (bd.add (k * 3)).off + 1, none⟩ = some (.slice B1 m1 b1) ∧ W'.cell? ⟨(bd.add (k * 3)).block, (bd.add (k * 3)).off + 2, none⟩ = some (.slice B2 m2 b2)) (first | exact s1.out | exact s2.out | (trace_state; fail))
        (first
          | (go_at_call 40; (with_reducible refine HSM.out.mono ?_); rintro e w8 ⟨rfl, hb8⟩; have HB8 := Lib.hid (show Below wr.drew.heap.size wr.drew w8 from hb8); have s2 := Lib.hid (HSS.out w8 HB8.out); clear hb8))
      have HB9 := Lib.hid (HBr.out.trans (HB8.out.mono HBr.out.size))
      go_wp2_with fail
      go_roundw
      case rel => exact ⟨k + 1, by omega, by go_num, HB9⟩
      case measure => simp [intOf]; omega
    · have hke : nN = k := by omega
      subst hke
      have HM0 := Lib.hid hM.out
      clear hM hka hkb
      go_upto_region 8 with fail
      go_wp2_with fail
      clear x0 y0
      go_loopw [6] (fun s wx => ∃ k : Nat, k ≤ nE ∧ s = .int .i64 (k : Nat) ∧ Hid (Below w2.heap.size w2 wx)) (fun s _ => nE - (intOf s).toNat)
      case atStart => exact ⟨0, by omega, rfl, HM0⟩
      case round =>
        clear HM0
        obtain ⟨k, hk, rfl, hM⟩ := hrel
        have hka := (hM.out.block z HS2.out.1).trans HK0.out
        have hkb := (hM.out.block (z + 1) HS2.out.2).trans HK1.out
        have x1 : wr.cell? ⟨z, 1, none⟩ = some (.slice AE nE cE) := Lib.cell_of_heap hka 1
        have y1 : wr.cell? ⟨z + 1, 1, none⟩ = some (.slice BE nE dE) := Lib.cell_of_heap hkb 1
        by_cases hlt : k < nE
        · obtain ⟨x, hx⟩ : ∃ x, g.edges[k]? = some x := ⟨g.edges[k]'(by rw [HnE.out]; exact hlt), List.getElem?_eq_getElem _⟩
          have HFX := Lib.hid (HFIT.out.2.2.2 x (List.mem_of_getElem? hx)).1
          have hszr : w2.heap.size ≤ wr.heap.size := hM.out.size
          obtain ⟨ad, A2, a2, rfl, hFa, hNa, _, p0, p1, p2, p3, p4⟩ := edgesAt (HEA.out.under EdR.good hM.out (fun b hb => hb)) hx
          obtain ⟨bd, B2, b2, rfl, hFb, hNb, _, q0, q1, q2, q3, q4⟩ := edgesAt (HEB.out.under EdR.good hM.out (fun b hb => hb)) hx
          have hsm := eqEdge_same x HFX.out (fun b => b < w2.heap.size) (fun b => b < w2.heap.size) _ _ wr.drew (fun b hb => Nat.lt_of_lt_of_le hb hszr) (fun b hb => Nat.lt_of_lt_of_le hb hszr) rfl rfl (EdR.good.keep hNa (w' := wr.drew) (fun _ _ => rfl)) (EdR.good.keep hNb (w' := wr.drew) (fun _ _ => rfl))
          obtain ⟨id, Hid1⟩ := name_itV x.id
          obtain ⟨src, Hsrc⟩ := name_itV x.src
          obtain ⟨dst, Hdst⟩ := name_itV x.dst
          obtain ⟨typ, Htyp⟩ := name_itV x.type
          obtain ⟨m2, Hm2⟩ := name_itV x.props.length
          rw [Hid1.out, Hsrc.out, Hdst.out, Htyp.out, Hm2.out] at hsm
          rw [Hid1.out] at p0
          rw [Hsrc.out] at p1
          rw [Hdst.out] at p2
          rw [Htyp.out] at p3
          rw [Hm2.out] at p4
          rw [Hid1.out] at q0
          rw [Hsrc.out] at q1
          rw [Hdst.out] at q2
          rw [Htyp.out] at q3
          rw [Hm2.out] at q4
          have HSM := Lib.hid hsm
          have PP := Lib.hid (And.intro p0 (And.intro p1 (And.intro p2 (And.intro p3 p4))))
          have QP := Lib.hid (And.intro q0 (And.intro q1 (And.intro q2 (And.intro q3 q4))))
          have HBX := Lib.hid (And.intro x1 y1)
          have HZL := Lib.hid (And.intro (show z < wr.drew.heap.size from Nat.lt_of_lt_of_le HS2.out.1 hszr) (show z + 1 < wr.drew.heap.size from Nat.lt_of_lt_of_le HS2.out.2 hszr))
          have PL := Lib.hid (show (ad.add (k * 5)).block < wr.drew.heap.size from by rw [block_of_add]; exact Nat.lt_of_lt_of_le hFa hszr)
          have QL := Lib.hid (show (bd.add (k * 5)).block < wr.drew.heap.size from by rw [block_of_add]; exact Nat.lt_of_lt_of_le hFb hszr)
          have HSS := Lib.hid (fun (W : World) (hW : Below wr.drew.heap.size wr.drew W) => (show W.cell? ⟨z, 1, none⟩ = some (.slice (some ad) nE cE) ∧ W.cell? ⟨z + 1, 1, none⟩ = some (.slice (some bd) nE dE) ∧ W.cell? (ad.add (k * 5)) = some (.int .i64 id) ∧ W.cell? ⟨(ad.add (k * 5)).block, (ad.add (k * 5)).off + 1, none⟩ = some (.int .i64 src) ∧ W.cell? ⟨(ad.add (k * 5)).block, (ad.add (k * 5)).off + 2, none⟩ = some (.int .i64 dst) ∧ W.cell? ⟨(ad.add (k * 5)).block, (ad.add (k * 5)).off + 3, none⟩ = some (.string typ) ∧ W.cell? ⟨(ad.add (k * 5)).block, (ad.add (k * 5)).off + 4, none⟩ = some (.slice A2 m2 a2) ∧ W.cell? (bd.add (k * 5)) = some (.int .i64 id) ∧ W.cell? ⟨(bd.add (k * 5)).block, (bd.add (k * 5)).off + 1, none⟩ = some (.int .i64 src) ∧ W.cell? ⟨(bd.add (k * 5)).block, (bd.add (k * 5)).off + 2, none⟩ = some (.int .i64 dst) ∧ W.cell? ⟨(bd.add (k * 5)).block, (bd.add (k * 5)).off + 3, none⟩ = some (.string typ) ∧ W.cell? ⟨(bd.add (k * 5)).block, (bd.add (k * 5)).off + 4, none⟩ = some (.slice B2 m2 b2) from ⟨(hW.cell (p := ⟨z, 1, none⟩) HZL.out.1).trans HBX.out.1, (hW.cell (p := ⟨z + 1, 1, none⟩) HZL.out.2).trans HBX.out.2, (hW.cell (p := ad.add (k * 5)) PL.out).trans PP.out.1, (hW.cell (p := ⟨(ad.add (k * 5)).block, (ad.add (k * 5)).off + 1, none⟩) PL.out).trans PP.out.2.1, (hW.cell (p := ⟨(ad.add (k * 5)).block, (ad.add (k * 5)).off + 2, none⟩) PL.out).trans PP.out.2.2.1, (hW.cell (p := ⟨(ad.add (k * 5)).block, (ad.add (k * 5)).off + 3, none⟩) PL.out).trans PP.out.2.2.2.1, (hW.cell (p := ⟨(ad.add (k * 5)).block, (ad.add (k * 5)).off + 4, none⟩) PL.out).trans PP.out.2.2.2.2, (hW.cell (p := bd.add (k * 5)) QL.out).trans QP.out.1, (hW.cell (p := ⟨(bd.add (k * 5)).block, (bd.add (k * 5)).off + 1, none⟩) QL.out).trans QP.out.2.1, (hW.cell (p := ⟨(bd.add (k * 5)).block, (bd.add (k * 5)).off + 2, none⟩) QL.out).trans QP.out.2.2.1, (hW.cell (p := ⟨(bd.add (k * 5)).block, (bd.add (k * 5)).off + 3, none⟩) QL.out).trans QP.out.2.2.2.1, (hW.cell (p := ⟨(bd.add (k * 5)).block, (bd.add (k * 5)).off + 4, none⟩) QL.out).trans QP.out.2.2.2.2⟩))
          have s1 := Lib.hid (HSS.out wr.drew (Below.refl _ _))
          have HBr := Lib.hid (show Below w2.heap.size w2 wr.drew from hM.out.drew)
          have e1 : (0 : Int) ≤ k := by omega
          have e2 : (k : Int) < nE := by omega
          have w1 : IntKind.i64.wrap ((k : Int) + 1) = (k : Int) + 1 := IntWalk.i64_in _ (by omega)
          clear hx hFa hFb hNa hNb hsm hM hszr hka hkb
          go_upto_region 11 with fail
          clear p0 p1 p2 p3 p4 q0 q1 q2 q3 q4 x1 y1
          go_region_held3 (fun W' => W'.cell? ⟨z, 1, none⟩ = some (.slice (some ad) nE cE) ∧ W'.cell? ⟨z + 1, 1, none⟩ = some (.slice (some bd) nE dE) ∧ W'.cell? (ad.add (k * 5)) = some (.int .i64 id) ∧ W'.cell? ⟨(ad.add (k * 5)).block, (ad.add (k * 5)).off + 1, none⟩ = some (.int .i64 src) ∧ W'.cell? ⟨(ad.add (k * 5)).block, (ad.add (k * 5)).off + 2, none⟩ = some (.int .i64 dst) ∧ W'.cell? ⟨(ad.add (k * 5)).block, (ad.add (k * 5)).off + 3, none⟩ = some (.string typ) ∧ W'.cell? ⟨(ad.add (k * 5)).block, (ad.add (k * 5)).off + 4, none⟩ = some (.slice A2 m2 a2) ∧ W'.cell? (bd.add (k * 5)) = some (.int .i64 id) ∧ W'.cell? ⟨(bd.add (k * 5)).block, (bd.add (k * 5)).off + 1, none⟩ = some (.int .i64 src) ∧ W'.cell? ⟨(bd.add (k * 5)).block, (bd.add (k * 5)).off + 2, none⟩ = some (.int .i64 dst) ∧ W'.cell? ⟨(bd.add (k * 5)).block, (bd.add (k * 5)).off + 3, none⟩ = some (.string typ) ∧ W'.cell? ⟨(bd.add (k * 5)).block, (bd.add (k * 5)).off + 4, none⟩ = some (.slice B2 m2 b2)) (first | exact s1.out | exact s2.out | (trace_state; fail))
            (first
              | (go_at_call 41; (with_reducible refine HSM.out.mono ?_); rintro e w8 ⟨rfl, hb8⟩; have HB8 := Lib.hid (show Below wr.drew.heap.size wr.drew w8 from hb8); have s2 := Lib.hid (HSS.out w8 HB8.out); clear hb8))
          have HB9 := Lib.hid (HBr.out.trans (HB8.out.mono HBr.out.size))
          go_wp2_with fail
          go_roundw
          case rel => exact ⟨k + 1, by omega, by go_num, HB9⟩
          case measure => simp [intOf]; omega
        · have hke : nE = k := by omega
          subst hke
          have HBF := Lib.hid (show Below w.heap.size w wr from HB2.out.trans (hM.out.mono HB2.out.size))
          clear hM hka hkb
          go_wp2_with fail
          go_ret
          exact ⟨rfl, HBF.out⟩
end Go.Proofs.YtmhjbicbdahllaaGreatDoor

namespace Go.Proofs.YtmhjbicbdahllaaGreatDoor
open Go Go.RowKit

theorem ordS_anti {a b : ByteArray} (h1 : ¬ ordS a b < 0) (h2 : ¬ ordS b a < 0) : a = b := by
  rw [ordS_lt] at h1 h2
  have h3 : a.data.toList = b.data.toList := List.le_antisymm (List.not_lt.1 h2) (List.not_lt.1 h1)
  exact ByteArray.ext (Array.toList_inj.1 h3)
theorem srtT_self {l l' : List ByteArray} (hs : l.Pairwise (fun a b => ¬ ordS b a < 0)) (h : SrtT l l') : l' = l :=
  List.Perm.eq_of_pairwise (le := fun a b => ¬ ordS b a < 0) (fun _ _ _ _ h1 h2 => ordS_anti h2 h1) h.2 hs h.1
theorem srtP_self {l l' : List PairD} (hk : ∀ p q, p ∈ l → q ∈ l → p.key = q.key → p = q) (hs : l.Pairwise (fun a b => ¬ ordS b.key a.key < 0)) (h : SrtP l l') : l' = l :=
  List.Perm.eq_of_pairwise (le := fun a b => ¬ ordS b.key a.key < 0) (fun a b ha hb h1 h2 => hk a b (h.1.mem_iff.1 ha) hb (ordS_anti h2 h1)) h.2 hs h.1
theorem ordI_anti {a b : Int} (h1 : ¬ ordI a b < 0) (h2 : ¬ ordI b a < 0) : a = b := by
  rw [ordI_lt] at h1 h2
  omega
theorem perm_self {α : Type} {key : α → Int} {l l' : List α} (hn : (l.map key).Nodup) (hs : l.Pairwise (fun a b => ¬ ordI (key b) (key a) < 0)) (hp : l'.Perm l) (h : l'.Pairwise (fun a b => ¬ ordI (key b) (key a) < 0)) : l' = l :=
  List.Perm.eq_of_pairwise (le := fun a b => ¬ ordI (key b) (key a) < 0) (fun _ _ ha hb h1 h2 => nodup_inj hn (hp.mem_iff.1 ha) hb (ordI_anti h2 h1)) h hs hp
theorem all2_eq {α : Type} {R : α → α → Prop} {l m : List α} (h : All2 R l m) (he : ∀ x y, x ∈ l → R x y → y = x) : m = l := by
  apply List.ext_getElem?
  intro i
  cases hx : l[i]? with
  | none =>
    have h2 : m[i]? = none := by
      rw [List.getElem?_eq_none_iff] at hx ⊢
      rw [← h.1]; exact hx
    exact h2
  | some x =>
    have hm : i < m.length := by rw [← h.1]; exact idx_lt hx
    have h2 := List.getElem?_eq_getElem hm
    rw [h2, he x _ (List.mem_of_getElem? hx) (h.2 i x _ hx h2)]
/-- The elements of a sorted graph are sorted. -/
theorem srt_node_self {g g' : GraphD} (hm : mayG g = true) (hs : SrtG g g') {n n' : NodeD} (hn : n ∈ g'.nodes) (h : SrtN n n') : n' = n := by
  obtain ⟨⟨m, h1, h2, _⟩, _⟩ := hs
  obtain ⟨x, hx, hr⟩ := perm_all h1 h2 hn
  have hp : n.props.Perm x.props := hr.2.2.1
  have e2 := srtT_self hr.2.1.2 h.2.1
  have e3 := srtP_self (fun p q hp1 hq1 e => (propsB_all (may_node hm hx).1).2 p q (hp.mem_iff.1 hp1) (hp.mem_iff.1 hq1) e) hr.2.2.2 h.2.2
  obtain ⟨i, L, P⟩ := n
  obtain ⟨i', L', P'⟩ := n'
  have e1 : i' = i := h.1
  subst e1
  simp only at e2 e3
  rw [e2, e3]
theorem srt_edge_self {g g' : GraphD} (hm : mayG g = true) (hs : SrtG g g') {n n' : EdgeD} (hn : n ∈ g'.edges) (h : SrtE n n') : n' = n := by
  obtain ⟨_, ⟨m, h1, h2, _⟩⟩ := hs
  obtain ⟨x, hx, hr⟩ := perm_all h1 h2 hn
  have hp : n.props.Perm x.props := hr.2.2.2.2.1
  have e3 := srtP_self (fun p q hp1 hq1 e => (propsB_all (may_edge hm hx)).2 p q (hp.mem_iff.1 hp1) (hp.mem_iff.1 hq1) e) hr.2.2.2.2.2 h.2.2.2.2
  obtain ⟨i, s, d, t, P⟩ := n
  obtain ⟨i', s', d', t', P'⟩ := n'
  have e1 : i' = i := h.1
  have f1 : s' = s := h.2.1
  have f2 : d' = d := h.2.2.1
  have f4 : t' = t := h.2.2.2.1
  subst e1 f1 f2 f4
  simp only at e3
  rw [e3]
/-- A copy of a sorted graph is that graph. -/
theorem plain_self {g g' : GraphD} (hm : mayG g = true) (hs : SrtG g g') {ns : List NodeD} {es : List EdgeD} (h1 : All2 SrtN g'.nodes ns) (h2 : All2 SrtE g'.edges es) : (⟨ns, es⟩ : GraphD) = g' := by
  rw [all2_eq h1 (fun x y hx hr => srt_node_self hm hs hx hr), all2_eq h2 (fun x y hx hr => srt_edge_self hm hs hx hr)]
end Go.Proofs.YtmhjbicbdahllaaGreatDoor

namespace Go.Proofs.YtmhjbicbdahllaaGreatDoor
open Go Go.RowKit

/-- A scan whose test is 'unlike those before, and fit': every element is fit, no two are alike. -/
theorem scan_iff {α K : Type} [DecidableEq K] {ok : List K → α → Bool} {key : α → K} {c : α → Prop} (hok : ∀ ks x, ok ks x = true ↔ (key x ∉ ks ∧ c x)) {l : List α} : ∀ {ks : List K}, scanG ok key ks l = true ↔ ((∀ x, x ∈ l → c x ∧ key x ∉ ks) ∧ (l.map key).Nodup) := by
  induction l with
  | nil => intro ks; simp [scanG]
  | cons x r ih =>
    intro ks
    simp only [scanG, Bool.and_eq_true, hok, ih, List.map_cons, List.nodup_cons, List.mem_cons, List.mem_append, List.mem_map]
    constructor
    · rintro ⟨⟨h1, h2⟩, h3, h4⟩
      refine ⟨fun y hy => ?_, fun ⟨y, hy, he⟩ => ?_, h4⟩
      · rcases hy with rfl | hy
        · exact ⟨h2, h1⟩
        · exact ⟨(h3 y hy).1, fun h => (h3 y hy).2 (.inl h)⟩
      · exact (h3 y hy).2 (.inr (.inl he))
    · rintro ⟨h1, h2, h3⟩
      refine ⟨⟨(h1 x (.inl rfl)).2, (h1 x (.inl rfl)).1⟩, fun y hy => ⟨(h1 y (.inr hy)).1, fun h => ?_⟩, h3⟩
      rcases h with h | h
      · exact (h1 y (.inr hy)).2 h
      · rcases h with h | h
        · exact h2 ⟨y, hy, h⟩
        · cases h
theorem scan_perm {α K : Type} [DecidableEq K] {ok : List K → α → Bool} {key : α → K} {c : α → Prop} (hok : ∀ ks x, ok ks x = true ↔ (key x ∉ ks ∧ c x)) {l m : List α} (hp : m.Perm l) (h : scanG ok key [] l = true) : scanG ok key [] m = true := by
  rw [scan_iff hok] at h ⊢
  exact ⟨fun x hx => h.1 x (hp.mem_iff.1 hx), ((hp.map key).nodup_iff).2 h.2⟩
theorem labl_scan (l : List ByteArray) : ∀ ks, lablG ks l = scanG (fun ks s => textB s && !inB ks s) (fun s => s) ks l := by
  induction l with
  | nil => intro ks; rfl
  | cons x r ih => intro ks; simp only [lablG, scanG, ih]
theorem props_scan (l : List PairD) : ∀ ks, propsG ks l = scanG (fun ks p => textB p.key && (!inB ks p.key && plainB p.v)) PairD.key ks l := by
  induction l with
  | nil => intro ks; rfl
  | cons x r ih => intro ks; simp only [propsG, scanG, ih]
theorem inB_iff {K : Type} [DecidableEq K] {ks : List K} {x : K} : (!inB ks x) = true ↔ x ∉ ks := by
  unfold inB
  simp
theorem labl_perm {l m : List ByteArray} (hp : m.Perm l) (h : lablG [] l = true) : lablG [] m = true := by
  rw [labl_scan] at h ⊢
  refine scan_perm (c := fun s => textB s = true) (fun ks s => ?_) hp h
  rw [Bool.and_eq_true, inB_iff]
  exact ⟨fun h => ⟨h.2, h.1⟩, fun h => ⟨h.2, h.1⟩⟩
theorem props_perm {l m : List PairD} (hp : m.Perm l) (h : propsB l = true) : propsB m = true := by
  unfold propsB at h ⊢
  rw [Bool.and_eq_true] at h ⊢
  refine ⟨?_, by rw [hp.length_eq]; exact h.2⟩
  rw [props_scan] at ⊢
  have h1 := h.1
  rw [props_scan] at h1
  refine scan_perm (c := fun p => textB p.key = true ∧ plainB p.v = true) (fun ks p => ?_) hp h1
  rw [Bool.and_eq_true, Bool.and_eq_true, inB_iff]
  exact ⟨fun h => ⟨h.2.1, h.1, h.2.2⟩, fun h => ⟨h.2.1, h.1, h.2.2⟩⟩
theorem okN_iff (ks : List Int) (n : NodeD) : okN ks n = true ↔ (n.id ∉ ks ∧ (0 ≤ n.id ∧ lablG [] n.labels = true ∧ n.labels.length ≤ 65536 ∧ propsB n.props = true)) := by
  unfold okN
  rw [Bool.and_eq_true, Bool.and_eq_true, Bool.and_eq_true, Bool.and_eq_true, inB_iff, decide_eq_true_iff, decide_eq_true_iff]
  exact ⟨fun h => ⟨h.2.1, h.1, h.2.2.1, h.2.2.2.1, h.2.2.2.2⟩, fun h => ⟨h.2.1, h.1, h.2.2.1, h.2.2.2.1, h.2.2.2.2⟩⟩
theorem okE_iff (ns ks : List Int) (e : EdgeD) : okE ns ks e = true ↔ (e.id ∉ ks ∧ (0 ≤ e.id ∧ e.src ∈ ns ∧ e.dst ∈ ns ∧ textB e.type = true ∧ propsB e.props = true)) := by
  unfold okE
  rw [Bool.and_eq_true, Bool.and_eq_true, Bool.and_eq_true, Bool.and_eq_true, Bool.and_eq_true, inB_iff, decide_eq_true_iff]
  have h1 : inB ns e.src = true ↔ e.src ∈ ns := by unfold inB; simp
  have h2 : inB ns e.dst = true ↔ e.dst ∈ ns := by unfold inB; simp
  rw [h1, h2]
  exact ⟨fun h => ⟨h.2.1, h.1, h.2.2.1, h.2.2.2.1, h.2.2.2.2.1, h.2.2.2.2.2⟩, fun h => ⟨h.2.1, h.1, h.2.2.1, h.2.2.2.1, h.2.2.2.2.1, h.2.2.2.2.2⟩⟩
/-- What 'Load' made of a graph that may be may be. -/
theorem may_srt {g g' : GraphD} (hm : mayG g = true) (hs : SrtG g g') : mayG g' = true := by
  obtain ⟨hn, he⟩ := may_parts hm
  have hlen : g.nodes.length ≤ 131072 ∧ g.edges.length ≤ 65536 := by
    unfold mayG at hm
    rw [Bool.and_eq_true] at hm
    exact of_decide_eq_true hm.1
  obtain ⟨⟨m, h1, h2, _⟩, ⟨m', h3, h4, _⟩⟩ := hs
  rw [scan_iff okN_iff] at hn
  rw [scan_iff (okE_iff _)] at he
  have idN : ∀ i, i ∈ g.nodes.map NodeD.id → i ∈ g'.nodes.map NodeD.id := fun i hi => by
    obtain ⟨x, hx, rfl⟩ := List.mem_map.1 hi
    obtain ⟨y, hy, hr⟩ := all_perm h1 h2 hx
    exact List.mem_map.2 ⟨y, hy, hr.1⟩
  unfold mayG
  rw [Bool.and_eq_true, Bool.and_eq_true, scan_iff okN_iff, scan_iff (okE_iff _), decide_eq_true_iff]
  refine ⟨⟨by rw [h2.length_eq, ← h1.1]; exact hlen.1, by rw [h4.length_eq, ← h3.1]; exact hlen.2⟩, ⟨fun y hy => ?_, ?_⟩, fun y hy => ?_, ?_⟩
  · obtain ⟨x, hx, hr⟩ := perm_all h1 h2 hy
    obtain ⟨c1, c2, c3, c4⟩ := (hn.1 x hx).1
    exact ⟨⟨by rw [hr.1]; exact c1, labl_perm hr.2.1.1 c2, by rw [hr.2.1.1.length_eq]; exact c3, props_perm hr.2.2.1 c4⟩, List.not_mem_nil⟩
  · refine perm_ids h2 ?_
    rw [all2_map (R := SrtN) (f := NodeD.id) (g := NodeD.id) (fun x y h => h.1) h1]
    exact hn.2
  · obtain ⟨x, hx, hr⟩ := perm_all h3 h4 hy
    obtain ⟨c1, c2, c3, c4, c5⟩ := (he.1 x hx).1
    exact ⟨⟨by rw [hr.1]; exact c1, by rw [hr.2.1]; exact idN _ c2, by rw [hr.2.2.1]; exact idN _ c3, by rw [hr.2.2.2.1]; exact c4, props_perm hr.2.2.2.2.1 c5⟩, List.not_mem_nil⟩
  · refine perm_ids h4 ?_
    rw [all2_map (R := SrtE) (f := EdgeD.id) (g := EdgeD.id) (fun x y h => h.1) h3]
    exact he.2
/-- What 'Load' makes of what 'Load' made is the same. -/
theorem srt_self {g g' g2 : GraphD} (hm : mayG g = true) (hs : SrtG g g') (h : SrtG g' g2) : g2 = g' := by
  have hm' := may_srt hm hs
  have hs0 := hs
  obtain ⟨⟨m, h1, h2, h3⟩, ⟨k, h4, h5, h6⟩⟩ := h
  have e1 := all2_eq h1 (fun x y hx hr => srt_node_self hm hs0 hx hr)
  have e2 := all2_eq h4 (fun x y hx hr => srt_edge_self hm hs0 hx hr)
  subst e1 e2
  have f1 := perm_self (key := NodeD.id) (may_nodupN hm') hs.1.choose_spec.2.2 h2 h3
  have f2 := perm_self (key := EdgeD.id) (may_nodupE hm') hs.2.choose_spec.2.2 h5 h6
  obtain ⟨a, b⟩ := g2
  obtain ⟨c, d⟩ := g'
  simp only at f1 f2
  rw [f1, f2]
end Go.Proofs.YtmhjbicbdahllaaGreatDoor

namespace Go.Proofs.YtmhjbicbdahllaaGreatDoor
open Go Go.RowKit

theorem srtT_one {l a b : List ByteArray} (h1 : SrtT l a) (h2 : SrtT l b) : a = b :=
  List.Perm.eq_of_pairwise (le := fun a b => ¬ ordS b a < 0) (fun _ _ _ _ h1 h2 => ordS_anti h2 h1) h1.2 h2.2 (h1.1.trans h2.1.symm)
theorem srtP_one {l a b : List PairD} (hk : ∀ p q, p ∈ l → q ∈ l → p.key = q.key → p = q) (h1 : SrtP l a) (h2 : SrtP l b) : a = b :=
  List.Perm.eq_of_pairwise (le := fun a b => ¬ ordS b.key a.key < 0) (fun x y hx hy g1 g2 => hk x y (h1.1.mem_iff.1 hx) (h2.1.mem_iff.1 hy) (ordS_anti g2 g1)) h1.2 h2.2 (h1.1.trans h2.1.symm)
theorem all2_uniq {α β : Type} {R : α → β → Prop} {l : List α} {a b : List β} (h1 : All2 R l a) (h2 : All2 R l b) (h : ∀ x y z, x ∈ l → R x y → R x z → y = z) : a = b := by
  apply List.ext_getElem?
  intro i
  rcases Nat.lt_or_ge i l.length with hi | hi
  · have hx := List.getElem?_eq_getElem hi
    have ha := List.getElem?_eq_getElem (show i < a.length by rw [← h1.1]; exact hi)
    have hb := List.getElem?_eq_getElem (show i < b.length by rw [← h2.1]; exact hi)
    rw [ha, hb, h _ _ _ (List.mem_of_getElem? hx) (h1.2 i _ _ hx ha) (h2.2 i _ _ hx hb)]
  · rw [List.getElem?_eq_none (by rw [← h1.1]; exact hi), List.getElem?_eq_none (by rw [← h2.1]; exact hi)]
theorem srtG_one {g a b : GraphD} (hm : mayG g = true) (h1 : SrtG g a) (h2 : SrtG g b) : a = b := by
  have hma := may_srt hm h1
  obtain ⟨⟨m1, a1, a2, a3⟩, ⟨k1, a4, a5, a6⟩⟩ := h1
  obtain ⟨⟨m2, b1, b2, b3⟩, ⟨k2, b4, b5, b6⟩⟩ := h2
  have e1 : m1 = m2 := all2_uniq a1 b1 fun x y z hx hy hz => by
    have e2 := srtT_one hy.2.1 hz.2.1
    have e3 := srtP_one (fun p q hp hq e => (propsB_all (may_node hm hx).1).2 p q hp hq e) hy.2.2 hz.2.2
    obtain ⟨i, L, P⟩ := y
    obtain ⟨i', L', P'⟩ := z
    have e0 : i = i' := hy.1.trans hz.1.symm
    simp only at e2 e3
    rw [e0, e2, e3]
  have e2 : k1 = k2 := all2_uniq a4 b4 fun x y z hx hy hz => by
    have e3 := srtP_one (fun p q hp hq e => (propsB_all (may_edge hm hx)).2 p q hp hq e) hy.2.2.2.2 hz.2.2.2.2
    obtain ⟨i, s, d, t, P⟩ := y
    obtain ⟨i', s', d', t', P'⟩ := z
    have f0 : i = i' := hy.1.trans hz.1.symm
    have f1 : s = s' := hy.2.1.trans hz.2.1.symm
    have f2 : d = d' := hy.2.2.1.trans hz.2.2.1.symm
    have f3 : t = t' := hy.2.2.2.1.trans hz.2.2.2.1.symm
    simp only at e3
    rw [f0, f1, f2, f3, e3]
  subst e1 e2
  obtain ⟨na, ea⟩ := a
  obtain ⟨nb, eb⟩ := b
  have g1 : na = nb := (perm_self (key := NodeD.id) (may_nodupN hma) a3 (b2.trans a2.symm) b3).symm
  have g2 : ea = eb := (perm_self (key := EdgeD.id) (may_nodupE hma) a6 (b5.trans a5.symm) b6).symm
  rw [g1, g2]
theorem fit_srt {g g' : GraphD} (hfit : FitG g) (hs : SrtG g g') : FitG g' := by
  have hl := srt_len hfit hs
  obtain ⟨⟨m, h1, h2, _⟩, ⟨m', h3, h4, _⟩⟩ := hs
  refine ⟨hl.1, hl.2, fun n hn => ?_, fun e he => ?_⟩
  · obtain ⟨x, hx, hr⟩ := perm_all h1 h2 hn
    obtain ⟨⟨f1, f2, f3, f4⟩, f5⟩ := hfit.2.2.1 x hx
    have p1 : n.labels.Perm x.labels := hr.2.1.1
    have p2 : n.props.Perm x.props := hr.2.2.1
    exact ⟨⟨by rw [p1.length_eq]; exact f1, by rw [p2.length_eq]; exact f2, fun s hs => f3 s (p1.mem_iff.1 hs), fun p hp => f4 p (p2.mem_iff.1 hp)⟩, by rw [hr.1]; exact f5⟩
  · obtain ⟨x, hx, hr⟩ := perm_all h3 h4 he
    obtain ⟨⟨f1, f2, f3⟩, f4, f5, f6⟩ := hfit.2.2.2 x hx
    have p2 : e.props.Perm x.props := hr.2.2.2.2.1
    exact ⟨⟨by rw [hr.2.2.2.1]; exact f1, by rw [p2.length_eq]; exact f2, fun p hp => f3 p (p2.mem_iff.1 hp)⟩, by rw [hr.1]; exact f4, by rw [hr.2.1]; exact f5, by rw [hr.2.2.1]; exact f6⟩
theorem flat_may {g : GraphD} (hm : mayG g = true) : (∀ n, n ∈ g.nodes → FlatN n) ∧ ∀ e, e ∈ g.edges → FlatE e :=
  ⟨fun _ hn => propsB_flat (may_node hm hn).1, fun _ he => propsB_flat (may_edge hm he)⟩
theorem srt_lens {g g' : GraphD} (hs : SrtG g g') : g'.nodes.length = g.nodes.length ∧ g'.edges.length = g.edges.length := by
  obtain ⟨⟨m, h1, h2, _⟩, ⟨m', h3, h4, _⟩⟩ := hs
  exact ⟨by rw [h2.length_eq, ← h1.1], by rw [h4.length_eq, ← h3.1]⟩
end Go.Proofs.YtmhjbicbdahllaaGreatDoor

namespace Go.Proofs.YtmhjbicbdahllaaGreatDoor
open Go Go.ChangeShapes Go.WideShapes Go.ChangeAt Go.RowKit Go.Joins

mutual
/-- Are a value's numbers whole numbers of 64 bits? -/
def i64V : Val → Prop
  | .mk _ _ n _ _ l => (-9223372036854775808 ≤ n ∧ n ≤ 9223372036854775807) ∧ i64L l
def i64L : List Val → Prop
  | [] => True
  | v :: r => i64V v ∧ i64L r
end
theorem cellAdd (a : Addr) (i j : Nat) : (a.add i).add j = a.add (i + j) := Go.Deep.add_add a i j

/-- A struct of six fields of one cell each. -/
theorem trod_six {H : Type} {enc : TypeId × Value → H} {P : Program} {w : World} {base : Nat} {spare : Nat → Bool} {held : Bool} {t : TypeId} {f0 f1 f2 f3 f4 f5 : Field} {fuel : Nat} {cs : List Value} {x : DataW H × List MemPlace} (ht : P.underlying t = some (.struct #[f0, f1, f2, f3, f4, f5])) (ce : P.cellsOf t = 6)
    (o0 : f0.offset = 0) (o1 : f1.offset = 1) (o2 : f2.offset = 2) (o3 : f3.offset = 3) (o4 : f4.offset = 4) (o5 : f5.offset = 5) (c0 : P.cellsOf f0.type = 1) (c1 : P.cellsOf f1.type = 1) (c2 : P.cellsOf f2.type = 1) (c3 : P.cellsOf f3.type = 1) (c4 : P.cellsOf f4.type = 1) (c5 : P.cellsOf f5.type = 1)
    (h : DataW.trod enc P w base spare held fuel t cs = some x) :
    ∃ (v0 v1 v2 v3 v4 v5 : Value) (y0 y1 y2 y3 y4 y5 : DataW H × List MemPlace) (k : Nat), cs = [v0, v1, v2, v3, v4, v5] ∧ x.1 = .agg [y0.1, y1.1, y2.1, y3.1, y4.1, y5.1] ∧ DataW.trod enc P w base spare held k f0.type [v0] = some y0 ∧ DataW.trod enc P w base spare held k f1.type [v1] = some y1 ∧ DataW.trod enc P w base spare held k f2.type [v2] = some y2 ∧ DataW.trod enc P w base spare held k f3.type [v3] = some y3 ∧ DataW.trod enc P w base spare held k f4.type [v4] = some y4 ∧ DataW.trod enc P w base spare held k f5.type [v5] = some y5 := by
  obtain ⟨xs, k, hk, hxy, hcl, hxl, hf⟩ := DataW.trod_struct ht h
  rw [ce] at hcl
  match xs, hxl, cs, hcl with
  | [y0, y1, y2, y3, y4, y5], _, [v0, v1, v2, v3, v4, v5], _ =>
    have g0 := hf 0 f0 rfl
    have g1 := hf 1 f1 rfl
    have g2 := hf 2 f2 rfl
    have g3 := hf 3 f3 rfl
    have g4 := hf 4 f4 rfl
    have g5 := hf 5 f5 rfl
    simp [o0, o1, o2, o3, o4, o5, c0, c1, c2, c3, c4, c5] at g0 g1 g2 g3 g4 g5
    exact ⟨v0, v1, v2, v3, v4, v5, y0, y1, y2, y3, y4, y5, k, rfl, by rw [hxy]; rfl, g0, g1, g2, g3, g4, g5⟩

set_option maxRecDepth 100000 in
/-- What six cells read as a value, where shorter slices of values read as lists. -/
theorem val_cells {H : Type} {enc : TypeId × Value → H} {W : World} {N : Nat} {held : Bool} {n : Nat} {cs : List Value} {d : DataW H} {p : List MemPlace}
    (ih : ∀ {fuel : Nat} {v : Value} {d : DataW H} {p : List MemPlace}, Rows.uptoBulk d ≤ N → DataW.trod enc Tryz.prog W 0 (fun _ => true) held fuel 43 [v] = some (d, p) →
      ∃ A n cap l, v = .slice A n cap ∧ n ≤ cap ∧ LRd W (fun g => g < W.heap.size) l A n ∧ i64L l ∧ sizeL l < Rows.uptoBulk d)
    (hN : Rows.uptoBulk d ≤ N + 1) (h : DataW.trod enc Tryz.prog W 0 (fun _ => true) held n 55 cs = some (d, p)) :
    ∃ x, cs.toArray.size = 6 ∧ VRd W (fun g => g < W.heap.size) x (.agg cs.toArray) ∧ i64V x ∧ sizeV x ≤ Rows.uptoBulk d := by
  obtain ⟨v0, v1, v2, v3, v4, v5, y0, y1, y2, y3, y4, y5, k, rfl, hxy, g0, g1, g2, g3, g4, g5⟩ := trod_six Tryz.underlying55 (by kernel_rfl) rfl rfl rfl rfl rfl rfl (by kernel_rfl) (by kernel_rfl) (by kernel_rfl) (by kernel_rfl) (by kernel_rfl) (by kernel_rfl) h
  obtain ⟨k0, e0, d0, w0⟩ := DataW.trod_int (by kernel_rfl : Tryz.prog.underlying 3 = some (.int .i64)) g0
  obtain ⟨k1, e1, d1⟩ := DataW.trod_bool (by kernel_rfl : Tryz.prog.underlying 4 = some .bool) g1
  obtain ⟨k2, e2, d2, w2⟩ := DataW.trod_int (by kernel_rfl : Tryz.prog.underlying 2 = some (.int .i64)) g2
  obtain ⟨k3, e3, d3, w3⟩ := DataW.trod_string (by kernel_rfl : Tryz.prog.underlying 9 = some .string) g3
  obtain ⟨k4, e4, d4, w4⟩ := DataW.trod_string (by kernel_rfl : Tryz.prog.underlying 9 = some .string) g4
  injection e0 with e0 _
  injection e1 with e1 _
  injection e2 with e2 _
  injection e3 with e3 _
  injection e4 with e4 _
  subst e0 e1 e2 e3 e4 d0 d1 d2 d3 d4
  obtain ⟨y5, p5⟩ := y5
  simp only at hxy
  subst hxy
  have hbulk : 6 + k3.size + k4.size + Rows.uptoBulk y5 ≤ Rows.uptoBulk (DataW.agg [.lit (.int .i64 k0), .lit (.bool k1), .lit (.int .i64 k2), .lit (.string k3.data.toList), .lit (.string k4.data.toList), y5]) := by
    have z3 : k3.data.toList.length = k3.size := by rw [Array.length_toList]; rfl
    have z4 : k4.data.toList.length = k4.size := by rw [Array.length_toList]; rfl
    simp only [Rows.uptoBulk, Rows.uptoBulkAll]
    omega
  obtain ⟨A, m, cap, l, e5, hcap, hl, h64, hsz⟩ := ih (by omega) g5
  subst e5
  have hm : m = l.length := hl.1
  subst hm
  have h2 : -9223372036854775808 ≤ k2 ∧ k2 ≤ 9223372036854775807 := by simpa [Lit.wf, IntKind.min, IntKind.max, IntKind.signed, IntKind.bits] using w2
  refine ⟨.mk k0 k1 k2 k3 k4 l, rfl, VRd.of_list (v := .mk k0 k1 k2 k3 k4 l) hcap hl, ⟨h2, h64⟩, ?_⟩
  simp only [sizeV]
  omega

set_option maxRecDepth 100000 in
/-- What a slice of values reads as. -/
theorem vals_open {H : Type} {enc : TypeId × Value → H} {W : World} {held : Bool} (N : Nat) : ∀ {fuel : Nat} {v : Value} {d : DataW H} {p : List MemPlace}, Rows.uptoBulk d ≤ N → DataW.trod enc Tryz.prog W 0 (fun _ => true) held fuel 43 [v] = some (d, p) →
      ∃ A n cap l, v = .slice A n cap ∧ n ≤ cap ∧ LRd W (fun g => g < W.heap.size) l A n ∧ i64L l ∧ sizeL l < Rows.uptoBulk d := by
  induction N with
  | zero => intro fuel v d p hN; have := bulks.one_le d; omega
  | succ N ih =>
    intro fuel v d p hN h
    rcases Go.Deep.open_slice Tryz.underlying43 h with ⟨h3, hd⟩ | ⟨a, len, cap, m, n, D, Pl, h3, _, hlc, hcm, hm, hd, hel⟩
    · injection h3 with h3 _
      subst h3
      exact ⟨none, 0, 0, [], rfl, Nat.le_refl _, LRd.nil 0 rfl, trivial, by simp only [sizeL]; exact bulks.one_le d⟩
    · injection h3 with h3 _
      subst h3
      have hml : len ≤ m := by rw [hm]; split <;> omega
      injection hd with hd _
      subst hd
      have hb := bulks.slice_elems ((List.range len).map D) ((List.range (m - len)).map fun j => D (len + j))
      have hDi : ∀ i, i < len → Rows.uptoBulk (D i) ≤ N := fun i hi => by
        have := bulks.part_le (List.mem_map.2 ⟨i, List.mem_range.2 hi, rfl⟩ : D i ∈ (List.range len).map D)
        omega
      have each : ∀ i, i < len → ∃ q : Val × Array Value, q.2.size = 6 ∧ (∀ j, j < 6 → W.cell? (a.add (i * 6 + j)) = q.2[j]?) ∧ VRd W (fun g => g < W.heap.size) q.1 (.agg q.2) ∧ i64V q.1 ∧ sizeV q.1 ≤ Rows.uptoBulk (D i) := fun i hi => by
        obtain ⟨cs', c1, c2⟩ := hel i (by omega)
        rw [show Tryz.prog.cellsOf 55 = 6 by kernel_rfl] at c1
        obtain ⟨_, hlen, hcell⟩ := World.cells?_some c1
        obtain ⟨x, x1, x2, x3, x4⟩ := val_cells (fun hN h => ih hN h) (Nat.le_succ_of_le (hDi i hi)) c2
        exact ⟨(x, cs'.toArray), x1, fun j hj => by rw [← cellAdd, hcell j hj]; simp, x2, x3, x4⟩
      have hex : ∃ q : Nat → Val × Array Value, ∀ i, i < len → (q i).2.size = 6 ∧ (∀ j, j < 6 → W.cell? (a.add (i * 6 + j)) = (q i).2[j]?) ∧ VRd W (fun g => g < W.heap.size) (q i).1 (.agg (q i).2) ∧ i64V (q i).1 ∧ sizeV (q i).1 ≤ Rows.uptoBulk (D i) := by
        classical
        exact ⟨fun i => if hi : i < len then Classical.choose (each i hi) else (.mk 0 false 0 ⟨#[]⟩ ⟨#[]⟩ [], #[]), fun i hi => by simp only [dif_pos hi]; exact Classical.choose_spec (each i hi)⟩
      obtain ⟨q, hq⟩ := hex
      refine ⟨some a, len, cap, (List.range len).map fun i => (q i).1, rfl, hlc, ⟨by simp, fun hn => ⟨a, rfl, ?_, fun i x hx => ?_⟩⟩, ?_, ?_⟩
      · obtain ⟨cs', c1, _⟩ := hel 0 (by omega)
        rw [show Tryz.prog.cellsOf 55 = 6 by kernel_rfl] at c1
        obtain ⟨_, hlen, hcell⟩ := World.cells?_some c1
        have h0 := hcell 0 (by omega)
        rw [List.getElem?_eq_getElem (by omega)] at h0
        have := World.block_lt_of_cell? W _ h0
        simpa [Addr.add] using this
      · rw [List.getElem?_map] at hx
        have hil : i < len := by
          rcases Nat.lt_or_ge i len with h' | h'
          · exact h'
          · rw [List.getElem?_eq_none (by simpa using h')] at hx; cases hx
        rw [List.getElem?_range hil] at hx
        injection hx with hx
        subst hx
        obtain ⟨q1, q2, q3, _⟩ := hq i hil
        exact ⟨_, q1, q2, q3⟩
      · have : ∀ L : List Nat, (∀ i, i ∈ L → i < len) → i64L (L.map fun i => (q i).1) := fun L => by
          induction L with
          | nil => intro _; trivial
          | cons x r ihl => intro hL; exact ⟨(hq x (hL x (List.mem_cons_self ..))).2.2.2.1, ihl fun i hi => hL i (List.mem_cons_of_mem _ hi)⟩
        exact this _ fun i hi => List.mem_range.1 hi
      · have : ∀ L : List Nat, (∀ i, i ∈ L → i < len) → sizeL (L.map fun i => (q i).1) ≤ Rows.uptoBulkAll (L.map D) := fun L => by
          induction L with
          | nil => intro _; simp [sizeL]
          | cons x r ihl =>
            intro hL
            have h1 := (hq x (hL x (List.mem_cons_self ..))).2.2.2.2
            have h2 := ihl fun i hi => hL i (List.mem_cons_of_mem _ hi)
            simp only [List.map_cons, sizeL, Rows.uptoBulkAll]
            omega
        have := this (List.range len) fun i hi => List.mem_range.1 hi
        omega

theorem trod_seven {H : Type} {enc : TypeId × Value → H} {P : Program} {w : World} {base : Nat} {spare : Nat → Bool} {held : Bool} {t : TypeId} {f0 f1 : Field} {fuel : Nat} {cs : List Value} {x : DataW H × List MemPlace} (ht : P.underlying t = some (.struct #[f0, f1])) (ce : P.cellsOf t = 7)
    (o0 : f0.offset = 0) (o1 : f1.offset = 1) (c0 : P.cellsOf f0.type = 1) (c1 : P.cellsOf f1.type = 6)
    (h : DataW.trod enc P w base spare held fuel t cs = some x) :
    ∃ (v0 v1 v2 v3 v4 v5 v6 : Value) (y0 y1 : DataW H × List MemPlace) (k : Nat), cs = [v0, v1, v2, v3, v4, v5, v6] ∧ x.1 = .agg [y0.1, y1.1] ∧ DataW.trod enc P w base spare held k f0.type [v0] = some y0 ∧ DataW.trod enc P w base spare held k f1.type [v1, v2, v3, v4, v5, v6] = some y1 := by
  obtain ⟨xs, k, hk, hxy, hcl, hxl, hf⟩ := DataW.trod_struct ht h
  rw [ce] at hcl
  match xs, hxl, cs, hcl with
  | [y0, y1], _, [v0, v1, v2, v3, v4, v5, v6], _ =>
    have g0 := hf 0 f0 rfl
    have g1 := hf 1 f1 rfl
    simp [o0, o1, c0, c1] at g0 g1
    exact ⟨v0, v1, v2, v3, v4, v5, v6, y0, y1, k, rfl, by rw [hxy]; rfl, g0, g1⟩
theorem trod_three {H : Type} {enc : TypeId × Value → H} {P : Program} {w : World} {base : Nat} {spare : Nat → Bool} {held : Bool} {t : TypeId} {f0 f1 f2 : Field} {fuel : Nat} {cs : List Value} {x : DataW H × List MemPlace} (ht : P.underlying t = some (.struct #[f0, f1, f2])) (ce : P.cellsOf t = 3)
    (o0 : f0.offset = 0) (o1 : f1.offset = 1) (o2 : f2.offset = 2) (c0 : P.cellsOf f0.type = 1) (c1 : P.cellsOf f1.type = 1) (c2 : P.cellsOf f2.type = 1)
    (h : DataW.trod enc P w base spare held fuel t cs = some x) :
    ∃ (v0 v1 v2 : Value) (y0 y1 y2 : DataW H × List MemPlace) (k : Nat), cs = [v0, v1, v2] ∧ x.1 = .agg [y0.1, y1.1, y2.1] ∧ DataW.trod enc P w base spare held k f0.type [v0] = some y0 ∧ DataW.trod enc P w base spare held k f1.type [v1] = some y1 ∧ DataW.trod enc P w base spare held k f2.type [v2] = some y2 := by
  obtain ⟨xs, k, hk, hxy, hcl, hxl, hf⟩ := DataW.trod_struct ht h
  rw [ce] at hcl
  match xs, hxl, cs, hcl with
  | [y0, y1, y2], _, [v0, v1, v2], _ =>
    have g0 := hf 0 f0 rfl
    have g1 := hf 1 f1 rfl
    have g2 := hf 2 f2 rfl
    simp [o0, o1, o2, c0, c1, c2] at g0 g1 g2
    exact ⟨v0, v1, v2, y0, y1, y2, k, rfl, by rw [hxy]; rfl, g0, g1, g2⟩
theorem trod_five {H : Type} {enc : TypeId × Value → H} {P : Program} {w : World} {base : Nat} {spare : Nat → Bool} {held : Bool} {t : TypeId} {f0 f1 f2 f3 f4 : Field} {fuel : Nat} {cs : List Value} {x : DataW H × List MemPlace} (ht : P.underlying t = some (.struct #[f0, f1, f2, f3, f4])) (ce : P.cellsOf t = 5)
    (o0 : f0.offset = 0) (o1 : f1.offset = 1) (o2 : f2.offset = 2) (o3 : f3.offset = 3) (o4 : f4.offset = 4) (c0 : P.cellsOf f0.type = 1) (c1 : P.cellsOf f1.type = 1) (c2 : P.cellsOf f2.type = 1) (c3 : P.cellsOf f3.type = 1) (c4 : P.cellsOf f4.type = 1)
    (h : DataW.trod enc P w base spare held fuel t cs = some x) :
    ∃ (v0 v1 v2 v3 v4 : Value) (y0 y1 y2 y3 y4 : DataW H × List MemPlace) (k : Nat), cs = [v0, v1, v2, v3, v4] ∧ x.1 = .agg [y0.1, y1.1, y2.1, y3.1, y4.1] ∧ DataW.trod enc P w base spare held k f0.type [v0] = some y0 ∧ DataW.trod enc P w base spare held k f1.type [v1] = some y1 ∧ DataW.trod enc P w base spare held k f2.type [v2] = some y2 ∧ DataW.trod enc P w base spare held k f3.type [v3] = some y3 ∧ DataW.trod enc P w base spare held k f4.type [v4] = some y4 := by
  obtain ⟨xs, k, hk, hxy, hcl, hxl, hf⟩ := DataW.trod_struct ht h
  rw [ce] at hcl
  match xs, hxl, cs, hcl with
  | [y0, y1, y2, y3, y4], _, [v0, v1, v2, v3, v4], _ =>
    have g0 := hf 0 f0 rfl
    have g1 := hf 1 f1 rfl
    have g2 := hf 2 f2 rfl
    have g3 := hf 3 f3 rfl
    have g4 := hf 4 f4 rfl
    simp [o0, o1, o2, o3, o4, c0, c1, c2, c3, c4] at g0 g1 g2 g3 g4
    exact ⟨v0, v1, v2, v3, v4, y0, y1, y2, y3, y4, k, rfl, by rw [hxy]; rfl, g0, g1, g2, g3, g4⟩

set_option maxRecDepth 100000 in
/-- What a slice reads as, where its elements read. -/
theorem slice_of {α : Type} [Inhabited α] {H : Type} {enc : TypeId × Value → H} {W : World} {held : Bool} {R : Lies α} {sz N : Nat} {T E : TypeId} {Q : α → Prop} {wt : α → Nat} (hT : Tryz.prog.underlying T = some (.slice E)) (hE : Tryz.prog.cellsOf E = sz) (hsz : 0 < sz)
    (each : ∀ {fuel : Nat} {cs : List Value} {d : DataW H} {p : List MemPlace}, Rows.uptoBulk d ≤ N → DataW.trod enc Tryz.prog W 0 (fun _ => true) held fuel E cs = some (d, p) → ∃ x : α, cs.toArray.size = sz ∧ R W (fun g => g < W.heap.size) x cs.toArray ∧ Q x ∧ wt x ≤ Rows.uptoBulk d)
    {fuel : Nat} {v : Value} {d : DataW H} {p : List MemPlace} (hN : Rows.uptoBulk d ≤ N) (h : DataW.trod enc Tryz.prog W 0 (fun _ => true) held fuel T [v] = some (d, p)) :
    ∃ l : List α, SlR sz R W (fun g => g < W.heap.size) l v ∧ (∀ x, x ∈ l → Q x) ∧ sumBy wt l < Rows.uptoBulk d ∧ l.length < Rows.uptoBulk d := by
  rcases Go.Deep.open_slice hT h with ⟨h3, hd⟩ | ⟨a, len, cap, m, n, D, Pl, h3, _, hlc, hcm, hm, hd, hel⟩
  · injection h3 with h3 _
    subst h3
    have h1 := bulks.one_le d
    exact ⟨[], SlR.nil .., fun x hx => (List.not_mem_nil hx).elim, by show 0 < _; omega, by show 0 < _; omega⟩
  · injection h3 with h3 _
    subst h3
    have hml : len ≤ m := by rw [hm]; split <;> omega
    injection hd with hd _
    subst hd
    have hb := bulks.slice_elems ((List.range len).map D) ((List.range (m - len)).map fun j => D (len + j))
    have hb2 := bulks.slice_le ((List.range len).map D) ((List.range (m - len)).map fun j => D (len + j))
    have hDi : ∀ i, i < len → Rows.uptoBulk (D i) ≤ N := fun i hi => by
      have := bulks.part_le (List.mem_map.2 ⟨i, List.mem_range.2 hi, rfl⟩ : D i ∈ (List.range len).map D)
      omega
    have ev : ∀ i, i < len → ∃ q : α × Array Value, q.2.size = sz ∧ (∀ j, j < sz → W.cell? (a.add (i * sz + j)) = q.2[j]?) ∧ R W (fun g => g < W.heap.size) q.1 q.2 ∧ Q q.1 ∧ wt q.1 ≤ Rows.uptoBulk (D i) := fun i hi => by
      obtain ⟨cs', c1, c2⟩ := hel i (by omega)
      rw [hE] at c1
      obtain ⟨_, hlen, hcell⟩ := World.cells?_some c1
      obtain ⟨x, x1, x2, x3, x4⟩ := each (hDi i hi) c2
      exact ⟨(x, cs'.toArray), x1, fun j hj => by rw [← cellAdd, hcell j hj]; simp, x2, x3, x4⟩
    have hex : ∃ q : Nat → α × Array Value, ∀ i, i < len → (q i).2.size = sz ∧ (∀ j, j < sz → W.cell? (a.add (i * sz + j)) = (q i).2[j]?) ∧ R W (fun g => g < W.heap.size) (q i).1 (q i).2 ∧ Q (q i).1 ∧ wt (q i).1 ≤ Rows.uptoBulk (D i) := by
      classical
      exact ⟨fun i => if hi : i < len then Classical.choose (ev i hi) else (default, #[]), fun i hi => by simp only [dif_pos hi]; exact Classical.choose_spec (ev i hi)⟩
    obtain ⟨q, hq⟩ := hex
    have hll : ((List.range len).map fun i => (q i).1).length = len := by simp
    refine ⟨(List.range len).map fun i => (q i).1, ⟨some a, cap, by rw [hll], by rw [hll]; exact hlc, rfl, fun hn => ⟨a, rfl, ?_, fun i x hx => ?_⟩⟩, ?_, ?_, ?_⟩
    · obtain ⟨cs', c1, _⟩ := hel 0 (by rw [hll] at hn; omega)
      rw [hE] at c1
      obtain ⟨_, hlen, hcell⟩ := World.cells?_some c1
      have h0 := hcell 0 hsz
      rw [List.getElem?_eq_getElem (by omega)] at h0
      have := World.block_lt_of_cell? W _ h0
      simpa [Addr.add] using this
    · rw [List.getElem?_map] at hx
      have hil : i < len := by
        rcases Nat.lt_or_ge i len with h' | h'
        · exact h'
        · rw [List.getElem?_eq_none (by simpa using h')] at hx; cases hx
      rw [List.getElem?_range hil] at hx
      injection hx with hx
      subst hx
      obtain ⟨q1, q2, q3, _⟩ := hq i hil
      exact ⟨_, q1, q2, q3⟩
    · intro x hx
      obtain ⟨i, hi, rfl⟩ := List.mem_map.1 hx
      exact (hq i (List.mem_range.1 hi)).2.2.2.1
    · have : ∀ L : List Nat, (∀ i, i ∈ L → i < len) → sumBy wt (L.map fun i => (q i).1) ≤ Rows.uptoBulkAll (L.map D) := fun L => by
        induction L with
        | nil => intro _; simp [sumBy]
        | cons x r ihl =>
          intro hL
          have h1 := (hq x (hL x (List.mem_cons_self ..))).2.2.2.2
          have h2 := ihl fun i hi => hL i (List.mem_cons_of_mem _ hi)
          simp only [sumBy, List.map_cons, List.sum_cons, Rows.uptoBulkAll] at h2 ⊢
          omega
      have := this (List.range len) fun i hi => List.mem_range.1 hi
      omega
    · rw [hll]
      have hh : ((List.range len).map D).length = len := by simp
      omega
instance : Inhabited Val := ⟨.mk 0 false 0 ⟨#[]⟩ ⟨#[]⟩ []⟩
instance : Inhabited PairD := ⟨⟨⟨#[]⟩, default⟩⟩
instance : Inhabited NodeD := ⟨⟨0, [], []⟩⟩
instance : Inhabited EdgeD := ⟨⟨0, 0, 0, ⟨#[]⟩, []⟩⟩
section
variable {H : Type} {enc : TypeId × Value → H} {W : World} {held : Bool} {fuel : Nat} {d : DataW H} {p : List MemPlace}
set_option maxRecDepth 100000 in
theorem text_el {cs : List Value} (hN : Rows.uptoBulk d ≤ 1048576) (h : DataW.trod enc Tryz.prog W 0 (fun _ => true) held fuel 9 cs = some (d, p)) :
    ∃ x : ByteArray, cs.toArray.size = 1 ∧ TxR W (fun g => g < W.heap.size) x cs.toArray ∧ x.size ≤ 2000000 ∧ (fun _ : ByteArray => 0) x ≤ Rows.uptoBulk d := by
  obtain ⟨s, rfl, e, _⟩ := DataW.trod_string (by kernel_rfl : Tryz.prog.underlying 9 = some .string) h
  injection e with e _
  subst e
  refine ⟨s, rfl, rfl, ?_, Nat.zero_le _⟩
  rw [bulks.string_eq, Array.length_toList] at hN
  have : s.size = s.data.size := rfl
  omega
theorem texts_of {v : Value} (hN : Rows.uptoBulk d ≤ 1048576) (h : DataW.trod enc Tryz.prog W 0 (fun _ => true) held fuel 35 [v] = some (d, p)) :
    ∃ l : List ByteArray, SlR 1 TxR W (fun g => g < W.heap.size) l v ∧ (∀ x, x ∈ l → x.size ≤ 2000000) ∧ sumBy (fun _ => 0) l < Rows.uptoBulk d ∧ l.length < Rows.uptoBulk d :=
  slice_of (Q := fun x : ByteArray => x.size ≤ 2000000) Tryz.underlying35 (by kernel_rfl) (by decide) (fun hN h => text_el hN h) hN h
set_option maxRecDepth 100000 in
theorem pair_el {cs : List Value} (hN : Rows.uptoBulk d ≤ 1048576) (h : DataW.trod enc Tryz.prog W 0 (fun _ => true) held fuel 57 cs = some (d, p)) :
    ∃ x : PairD, cs.toArray.size = 7 ∧ PaR W (fun g => g < W.heap.size) x cs.toArray ∧ FitP x ∧ (fun _ : PairD => 0) x ≤ Rows.uptoBulk d := by
  obtain ⟨v0, v1, v2, v3, v4, v5, v6, y0, y1, k, rfl, hxy, g0, g1⟩ := trod_seven Tryz.underlying57 (by kernel_rfl) rfl rfl (by kernel_rfl) (by kernel_rfl) h
  obtain ⟨s, e0, d0, _⟩ := DataW.trod_string (by kernel_rfl : Tryz.prog.underlying 9 = some .string) g0
  injection e0 with e0 _
  subst e0 d0
  obtain ⟨y1, p1⟩ := y1
  simp only at hxy
  subst hxy
  have hb : s.size + Rows.uptoBulk y1 ≤ Rows.uptoBulk (DataW.agg [.lit (.string s.data.toList), y1]) := by
    have z3 : s.data.toList.length = s.size := by rw [Array.length_toList]; rfl
    simp only [Rows.uptoBulk, Rows.uptoBulkAll]
    omega
  obtain ⟨x, x1, x2, _, x4⟩ := val_cells (N := 1048576) (fun hN h => vals_open 1048576 hN h) (by omega) g1
  obtain ⟨A, cap, hu, _, _⟩ := x2.inv
  injection hu with hu
  have hl := congrArg Array.toList hu
  unfold cellsV at hl
  simp only [List.cons.injEq, and_true] at hl
  obtain ⟨r1, r2, r3, r4, r5, r6⟩ := hl
  subst r1 r2 r3 r4 r5 r6
  refine ⟨⟨s, x⟩, rfl, ⟨_, rfl, x2⟩, ⟨?_, ?_⟩, Nat.zero_le _⟩
  · show s.size ≤ 2000000; omega
  · show sizeV x ≤ 2000000; omega
theorem pairs_of {v : Value} (hN : Rows.uptoBulk d ≤ 1048576) (h : DataW.trod enc Tryz.prog W 0 (fun _ => true) held fuel 36 [v] = some (d, p)) :
    ∃ l : List PairD, SlR 7 PaR W (fun g => g < W.heap.size) l v ∧ (∀ x, x ∈ l → FitP x) ∧ sumBy (fun _ => 0) l < Rows.uptoBulk d ∧ l.length < Rows.uptoBulk d :=
  slice_of (Q := FitP) Tryz.underlying36 (by kernel_rfl) (by decide) (fun hN h => pair_el hN h) hN h
set_option maxRecDepth 100000 in
theorem node_el {cs : List Value} (hN : Rows.uptoBulk d ≤ 1048576) (h : DataW.trod enc Tryz.prog W 0 (fun _ => true) held fuel 38 cs = some (d, p)) :
    ∃ x : NodeD, cs.toArray.size = 3 ∧ NoR W (fun g => g < W.heap.size) x cs.toArray ∧ (FitN x ∧ VI x.id) ∧ wN x ≤ Rows.uptoBulk d := by
  obtain ⟨v0, v1, v2, y0, y1, y2, k, rfl, hxy, g0, g1, g2⟩ := trod_three Tryz.underlying38 (by kernel_rfl) rfl rfl rfl (by kernel_rfl) (by kernel_rfl) (by kernel_rfl) h
  obtain ⟨i0, e0, d0, w0⟩ := DataW.trod_int (by kernel_rfl : Tryz.prog.underlying 2 = some (.int .i64)) g0
  injection e0 with e0 _
  subst e0 d0
  obtain ⟨y1, p1⟩ := y1
  obtain ⟨y2, p2⟩ := y2
  simp only at hxy
  subst hxy
  have hb : Rows.uptoBulk y1 + Rows.uptoBulk y2 ≤ Rows.uptoBulk (DataW.agg [.lit (.int .i64 i0), y1, y2]) := by
    simp only [Rows.uptoBulk, Rows.uptoBulkAll]
    omega
  obtain ⟨L, l1, l2, _, l4⟩ := texts_of (by omega) g1
  obtain ⟨P, q1, q2, _, q4⟩ := pairs_of (by omega) g2
  exact ⟨⟨i0, L, P⟩, rfl, ⟨_, _, rfl, l1, q1⟩, ⟨⟨by show L.length ≤ 2000000; omega, by show P.length ≤ 2000000; omega, l2, q2⟩, w0⟩, by show L.length + P.length ≤ _; omega⟩
set_option maxRecDepth 100000 in
theorem edge_el {cs : List Value} (hN : Rows.uptoBulk d ≤ 1048576) (h : DataW.trod enc Tryz.prog W 0 (fun _ => true) held fuel 41 cs = some (d, p)) :
    ∃ x : EdgeD, cs.toArray.size = 5 ∧ EdR W (fun g => g < W.heap.size) x cs.toArray ∧ (FitE x ∧ VI x.id ∧ VI x.src ∧ VI x.dst) ∧ wE x ≤ Rows.uptoBulk d := by
  obtain ⟨v0, v1, v2, v3, v4, y0, y1, y2, y3, y4, k, rfl, hxy, g0, g1, g2, g3, g4⟩ := trod_five Tryz.underlying41 (by kernel_rfl) rfl rfl rfl rfl rfl (by kernel_rfl) (by kernel_rfl) (by kernel_rfl) (by kernel_rfl) (by kernel_rfl) h
  obtain ⟨i0, e0, d0, w0⟩ := DataW.trod_int (by kernel_rfl : Tryz.prog.underlying 2 = some (.int .i64)) g0
  obtain ⟨i1, e1, d1, w1⟩ := DataW.trod_int (by kernel_rfl : Tryz.prog.underlying 2 = some (.int .i64)) g1
  obtain ⟨i2, e2, d2, w2⟩ := DataW.trod_int (by kernel_rfl : Tryz.prog.underlying 2 = some (.int .i64)) g2
  obtain ⟨s, e3, d3, _⟩ := DataW.trod_string (by kernel_rfl : Tryz.prog.underlying 9 = some .string) g3
  injection e0 with e0 _
  injection e1 with e1 _
  injection e2 with e2 _
  injection e3 with e3 _
  subst e0 d0 e1 d1 e2 d2 e3 d3
  obtain ⟨y4, p4⟩ := y4
  simp only at hxy
  subst hxy
  have hb : s.size + Rows.uptoBulk y4 ≤ Rows.uptoBulk (DataW.agg [.lit (.int .i64 i0), .lit (.int .i64 i1), .lit (.int .i64 i2), .lit (.string s.data.toList), y4]) := by
    have z3 : s.data.toList.length = s.size := by rw [Array.length_toList]; rfl
    simp only [Rows.uptoBulk, Rows.uptoBulkAll]
    omega
  obtain ⟨P, q1, q2, _, q4⟩ := pairs_of (by omega) g4
  exact ⟨⟨i0, i1, i2, s, P⟩, rfl, ⟨_, rfl, q1⟩, ⟨⟨by show s.size ≤ 2000000; omega, by show P.length ≤ 2000000; omega, q2⟩, w0, w1, w2⟩, by show P.length ≤ _; omega⟩
end
set_option maxRecDepth 100000 in
/-- What a graph reads as. -/
theorem graph_open {H : Type} {enc : TypeId × Value → H} {W : World} {base : Nat} {v : Value} {d : DataW H} {p : List MemPlace} (hk : Rows.uptoBulk d ≤ 1048576) (hv : Value.okWide Tryz.prog W .any base 25 v)
    (h : DataW.Trod enc Tryz.prog W 0 (fun _ => true) true 25 v d p) :
    ∃ g : GraphD, GrR W (fun b => b < W.heap.size) g v ∧ FitG g ∧ totalG g ≤ 1000000000 := by
  obtain ⟨v0, v1, y0, y1, m, rfl, rfl, rfl, h0, h1⟩ := open_agg2 Tryz.underlying25 (by kernel_rfl) (by kernel_rfl) hv h
  obtain ⟨y0, p0⟩ := y0
  obtain ⟨y1, p1⟩ := y1
  simp only [Rows.uptoBulk, Rows.uptoBulkAll] at hk
  obtain ⟨N, n1, n2, n3, n4⟩ := slice_of (Q := fun n => FitN n ∧ VI n.id) (wt := wN) Tryz.underlying22 (by kernel_rfl) (by decide) (fun hN h => node_el hN h) (by omega) h0
  obtain ⟨E, q1, q2, q3, q4⟩ := slice_of (Q := fun x => FitE x ∧ VI x.id ∧ VI x.src ∧ VI x.dst) (wt := wE) Tryz.underlying23 (by kernel_rfl) (by decide) (fun hN h => edge_el hN h) (by omega) h1
  refine ⟨⟨N, E⟩, ⟨_, _, rfl, n1, q1⟩, ⟨by show N.length ≤ 2000000; omega, by show E.length ≤ 2000000; omega, n2, q2⟩, ?_⟩
  show N.length + E.length + sumBy wN N + sumBy wE E ≤ 1000000000
  omega
end Go.Proofs.YtmhjbicbdahllaaGreatDoor

namespace Go.Proofs.YtmhjbicbdahllaaGreatDoor
open Go Go.RowKit

def OverTIs (s : Value) (w : World) (e : Ending) (w' : World) : Prop := e = .returned (.tuple #[]) ∧ Turn (fun b => s.ownBlock = some b) w w'
theorem frozen_row {w : World} {base e size : Nat} {v : Value} {n : Nat} {xs : List Value} (h : w.ownsRow base e size v n xs) {g : Nat} (hg : v.ownBlock = some g) (j : Nat) : w.frozen? ⟨g, j, none⟩ = false := by
  obtain ⟨cur, hc⟩ := own_type h hg
  exact Lib.frozen_of_heap hc j
theorem add_zero_at' (g n : Nat) : (⟨g, 0, none⟩ : Addr).add n = ⟨g, n, none⟩ := by
  unfold Addr.add
  split
  · rename_i h; rw [h]
  · simp
theorem cell_app {w : World} {base e g n cp : Nat} {ys : List Value} {x : Value} (hl : ys.length = n * 1) (h : w.ownsRow base e 1 (.slice (some ⟨g, 0, none⟩) (n + 1) cp) (n + 1) (ys ++ #[x].toList)) : w.cell? ⟨g, n, none⟩ = some x := by
  have := h.cellAt n (by omega)
  rw [List.getElem?_append_right (by omega)] at this
  have h0 : n - ys.length = 0 := by omega
  rw [h0] at this
  simpa using this
set_option maxRecDepth 100000 in
set_option maxHeartbeats 4000000 in
theorem overT_any (n : Nat) (xs : List Value) (s : Value) (w : World) (hrow : w.ownsRow 0 9 1 s n xs) (hn : n ≤ 10000000) :
    Calls Tryz.prog 12 #[s] w (OverTIs s w) := by
  obtain ⟨A, cp, rfl⟩ := slice_form hrow
  have HROW := Lib.hid hrow
  clear hrow
  go_enter Tryz.func12, Tryz.ntmps12
  go_wp2_with fail
  go_loopw [2] (fun s2 wx => ∃ (k : Nat), k ≤ n ∧ s2 = .int .i64 (k : Nat) ∧ Hid (∃ ys, wx.ownsRow 0 9 1 (.slice A n cp) n ys ∧ Turn (fun b => (Value.slice A n cp).ownBlock = some b) w wx)) (fun s2 _ => n - (intOf s2).toNat)
  case atStart => exact ⟨0, by omega, rfl, Lib.hid ⟨xs, HROW.out, Turn.refl _ _⟩⟩
  case round =>
    obtain ⟨k, hk, rfl, hM⟩ := hrel
    obtain ⟨ys, hys, hty⟩ := hM.out
    have HY := Lib.hid hys
    have HT := Lib.hid hty
    clear hM hys hty
    by_cases hlt : k < n
    · obtain ⟨g, cp2, hv, hc2, hc3⟩ := HY.out.form (by omega)
      injection hv with hA _ hcp
      subst hA
      have HST := Lib.hid (HY.out.stored k (.string ⟨#[111, 118, 101, 114]⟩))
      obtain ⟨y, hy⟩ : ∃ y, ys[k]? = some y := ⟨ys[k]'(by have := HY.out.1; omega), List.getElem?_eq_getElem _⟩
      have c1 : wr.cell? ⟨g, k, none⟩ = some y := by
        have := HY.out.cellAt k (by omega)
        rw [hy] at this
        simpa using this
      have f1 : wr.frozen? ⟨g, k, none⟩ = false := frozen_row HY.out rfl k
      have hadd := add_zero_at' g k
      have e1 : (0 : Int) ≤ k := by omega
      have e2 : (k : Int) < n := by omega
      have w1 : IntKind.i64.wrap ((k : Int) + 1) = (k : Int) + 1 := IntWalk.i64_in _ (by omega)
      clear hy hcp hc2 hc3
      go_wp2_with fail
      go_roundw
      case rel => exact ⟨k + 1, by omega, by go_num, Lib.hid ⟨_, HST.out.1, HT.out.setCell (p := ⟨g, k, none⟩) (.inr rfl) _⟩⟩
      case measure => simp [intOf]; omega
    · have hke : n = k := by omega
      subst hke
      clear hlt hk
      go_wp2_with (at_builtin; refine app_new rfl _ _ 35 rfl 0 9 (.string ⟨#[]⟩) 1 16 Tryz.underlying35 infoString rfl (by decide) (.slice A n cp) n ys rfl HY.out (Nat.zero_le _) #[.string ⟨#[98, 101, 121, 111, 110, 100]⟩] 1 1 rfl rfl (one_str _) (by omega) (by omega) (by decide) ?_; intro g4 cp4 w4 ho4 hg4 hl4; have HO4 := Lib.hid ho4; have HG4 := Lib.hid hg4; have HL4 := Lib.hid hl4; have c1 := cell_app HY.out.1 ho4; have f1 : w4.frozen? ⟨g4, n, none⟩ = false := frozen_row ho4 rfl n; have hadd := add_zero_at' g4 n; have e1 : (0 : Int) ≤ n := (by omega); have e3 : (n : Int) < (n : Int) + 1 := (by omega); clear ho4 hg4 hl4)
      go_end0
      refine ⟨rfl, ?_⟩
      have ht4 : Turn (fun b => (Value.slice A n cp).ownBlock = some b) w w4 := HT.out.trans ((Turn.of_grown HG4.out).mono (fun b _ h => h.symm))
      refine ht4.setCell (p := ⟨g4, n, none⟩) ?_ _
      rcases HL4.out with h | h
      · exact .inr h
      · exact .inl (Nat.le_trans HT.out.size h)
end Go.Proofs.YtmhjbicbdahllaaGreatDoor

namespace Go.Proofs.YtmhjbicbdahllaaGreatDoor
open Go Go.RowKit Go.Shelf Go.Sort Go.Proofs

/-- Texts that may be written. -/
def WT (w : World) (s : Value) : Prop := ∃ n xs, w.ownsRow 0 9 1 s n xs ∧ n ≤ 2000000
theorem WT.turn {S : Nat → Prop} {w w' : World} {s : Value} (h : WT w s) (ht : Turn S w w') (hS : ∀ g, s.ownBlock = some g → ¬ S g) : WT w' s := by
  obtain ⟨n, xs, h1, h2⟩ := h
  exact ⟨n, xs, ht.owns h1 hS, h2⟩
theorem WT.nil (w : World) : WT w (.slice none 0 0) := ⟨0, [], World.ownsRow_nil .., by decide⟩
theorem WT.lt {w : World} {s : Value} (h : WT w s) : ∀ g, s.ownBlock = some g → g < w.heap.size := fun g hg => by
  obtain ⟨n, xs, h1, _⟩ := h
  exact (h1.lt g hg).2
theorem WT.ne {w : World} {s : Value} (h : WT w s) {b : Nat} {cs : Array Value} {T : TypeId} (hb : w.heap[b]? = some (.cells cs T (0, 0))) (hT : 9 ≠ T) : s.ownBlock ≠ some b := by
  obtain ⟨n, xs, h1, _⟩ := h
  exact own_ne h1 hb hT
/-- .. written over. -/
theorem overW_any {s : Value} {w : World} (h : WT w s) : Calls Tryz.prog 12 #[s] w (OverTIs s w) := by
  obtain ⟨n, xs, h1, h2⟩ := h
  exact overT_any n xs s w h1 (by omega)
theorem sorted_blk {w : World} {g n : Nat} {d : Array (List UInt8)} {os : Array Obj} {cur : Array Value} {T : TypeId} (h : w.heap[g]? = some (.cells cur T (0, 0))) :
    ∃ cur', (grow (putRow encStr (Sort.ahead w n) g 0 d) os).heap[g]? = some (.cells cur' T (0, 0)) ∧ cur'.size = cur.size := by
  have hg := blk_lt h
  rw [heap_grow_old (putRow encStr (Sort.ahead w n) g 0 d) os (show g < _ by simpa [putRow, mapBlock, Sort.ahead] using hg)]
  refine ⟨putCells encStr 0 d cur, ?_, by simp [putCells]⟩
  simp [putRow, mapBlock, Sort.ahead, Array.getElem?_modify, h, onCells]
def NodeOwn (n : NodeD) (w : World) (e : Ending) (w' : World) : Prop :=
  ∃ c n', e = .returned (.agg c) ∧ Below w.heap.size w w' ∧ SrtN n n' ∧ NoR w' (fun b => w.heap.size ≤ b ∧ b < w'.heap.size) n' c ∧ ∃ L, c[1]? = some L ∧ WT w' L ∧ ∀ g, L.ownBlock = some g → w.heap.size ≤ g ∧ g < w'.heap.size
set_option maxRecDepth 100000 in
/-- Texts in a row of one's own, sorted. -/
theorem sortT_own {w : World} {F : Nat → Prop} {l : List ByteArray} {s : Value} (h : SOwn 9 1 TxR w F l s) (hlen : l.length ≤ 100000000) :
    Calls Tryz.prog 60 #[s] w fun e w' => e = .returned (.tuple #[]) ∧ ∃ l' : List ByteArray, SrtT l l' ∧ SlR 1 TxR w' F l' s ∧ Turn (fun b => s.ownBlock = some b) w w' ∧ ∃ xs, w'.ownsRow 0 9 1 s l.length xs := by
  obtain ⟨cs, hrow, h6, hFw, hr⟩ := h
  rcases hrow.2 with ⟨hs, h0⟩ | ⟨b, cap, cur, hs, _, hb, hcap, hcur, hcc, htake⟩
  · subst hs
    have hl0 : l = [] := List.eq_nil_of_length_eq_zero h0
    subst hl0
    refine (Any.slices_Sort_string_none Tryz.lays190 none 0 w).mono fun e w' ⟨he, hw⟩ => ⟨he, [], ⟨List.Perm.refl _, List.Pairwise.nil⟩, ?_, ?_, [], World.ownsRow_nil ..⟩
    · rw [hw]; exact SlR.nil ..
    · rw [hw]; exact Turn.refl _ _
  · subst hs
    have hblt := blk_lt hb
    have hds : (l.map fun s => s.data.toList).toArray.size = l.length := by simp
    have hH : Holds encStr w b 0 (l.map fun s => s.data.toList).toArray := by
      intro j hj
      rw [hds] at hj
      refine ⟨?_, by simp [World.frozen?, hb]⟩
      have h2 := hrow.cellAt j (by omega)
      have h3 := flatC_at h6 hj (show 0 < 1 by omega)
      rw [Nat.mul_one, Nat.add_zero] at h3
      rw [h3, hr j _ (List.getElem?_eq_getElem hj)] at h2
      rw [Nat.zero_add, h2, getElem!_pos _ j (by simpa using hj)]
      simp [encStr]
    have hcon := Any.slices_Sort_string Tryz.lays190 b 0 cap (l.map fun s => s.data.toList) w hH hblt (by simp; omega)
    rw [List.length_map] at hcon
    refine hcon.mono fun e w' ⟨he, n, os, hw⟩ => ⟨he, ((l.map fun s => s.data.toList).mergeSort leB).map strK, ⟨?_, ?_⟩, ?_, ?_, ?_⟩
    · refine ((List.mergeSort_perm _ _).map strK).trans (List.Perm.of_eq ?_)
      rw [List.map_map]
      exact (List.map_congr_left (fun x _ => by simp [strK])).trans (List.map_id _)
    · rw [List.pairwise_map]
      have tr : ∀ a b c : List UInt8, leB a b = true → leB b c = true → leB a c = true := fun a b c h1 h2 => by simp only [leB, decide_eq_true_eq] at *; exact List.le_trans h1 h2
      have tot : ∀ a b : List UInt8, (leB a b || leB b a) = true := fun a b => by simp only [leB, Bool.or_eq_true, decide_eq_true_eq]; exact List.le_total a b
      refine (List.pairwise_mergeSort tr tot _).imp fun {a b} h => ?_
      rw [ordS_lt]
      simp only [leB, decide_eq_true_eq] at h
      simpa [strK, List.not_lt] using h
    · have hlm : ((l.map fun s => s.data.toList).mergeSort leB).length = l.length := by rw [List.length_mergeSort, List.length_map]
      have hH' : Holds encStr w' b 0 ((l.map fun s => s.data.toList).mergeSort leB).toArray := by rw [hw]; exact holds_sortWorld encStr w b 0 n _ _ os hblt hH (by simp)
      refine ⟨some ⟨b, 0, none⟩, cap, by simp, by simp; exact hcap, by simp, fun _ => ⟨_, rfl, hFw b rfl, fun i x hx => ⟨#[.string x], rfl, fun j hj => ?_, rfl⟩⟩⟩
      have hil := idx_lt hx
      rw [List.length_map, hlm] at hil
      obtain rfl : j = 0 := by omega
      have h2 := (hH' i (by simpa [hlm] using hil)).1
      rw [List.getElem?_map, List.getElem?_eq_getElem (by rw [hlm]; exact hil)] at hx
      injection hx with hx
      subst hx
      rw [Addr.add_lit, Nat.mul_one, Nat.add_zero, h2, getElem!_pos _ i (by simpa [hlm] using hil)]
      simp [encStr, strK]
    · rw [hw]
      exact sortedT_turn.mono fun i _ hi => by rw [hi]; rfl
    · obtain ⟨cur', h1, h2⟩ := sorted_blk (n := n) (d := ((l.map fun s => s.data.toList).mergeSort leB).toArray) (os := os) hb
      have hc2 : l.length * 1 ≤ cur'.toList.length := by rw [show cur'.toList.length = cur'.size from rfl, h2, hcc]; omega
      exact ⟨cur'.toList.take (l.length * 1), by rw [List.length_take]; omega, .inr ⟨b, cap, cur', rfl, Nat.zero_le _, by rw [hw]; exact h1, hcap, hcur, by rw [h2, hcc], rfl⟩⟩

set_option maxRecDepth 100000 in
set_option maxHeartbeats 2000000 in
theorem node_own (n : NodeD) (hfit : FitN n) (hflat : FlatN n) (F : Nat → Prop) (c : Array Value) (w : World) (hF : ∀ g, F g → g < w.heap.size) (hn : NoR w F n c) :
    Calls Tryz.prog 31 #[.agg c] w (NodeOwn n w) := by
  obtain ⟨L, P, rfl, ⟨A1, c1, rfl, hc1, hl1⟩, A2, c2, rfl, hc2, hl2⟩ := hn
  have HF := Lib.hid hF
  have HL1 := Lib.hid hl1
  have HL2 := Lib.hid hl2
  have HFIT := Lib.hid hfit
  have HFLAT := Lib.hid hflat
  obtain ⟨id, Hid⟩ := name_itV n.id
  rw [Hid.out]
  obtain ⟨m1, Hm1⟩ := name_itV n.labels.length
  obtain ⟨m2, Hm2⟩ := name_itV n.props.length
  rw [Hm1.out] at HL1 ⊢
  rw [Hm2.out] at HL2 ⊢
  have hm1 : m1 ≤ 2000000 := by rw [← Hm1.out]; exact hfit.1
  clear hF hl1 hl2 hfit hflat hc1 hc2
  obtain ⟨z, HZ⟩ := name_itV w.heap.size
  obtain ⟨W2, HW2⟩ := name_itV ((w.alloc (.cells #[.int .i64 id, .slice A1 m1 c1, .slice A2 m2 c2] 38)).alloc (.cells #[.int .i64 0, .slice none 0 0, .slice none 0 0] 38))
  have HB2 := Lib.hid (show Below w.heap.size w W2 from by rw [← HW2.out]; exact two_new w _ _)
  have HS2 := Lib.hid (show W2.heap.size = z + 2 from by rw [← HW2.out, ← HZ.out]; simp)
  have HK1 := Lib.hid (show W2.heap[z]? = some (.cells #[.int .i64 id, .slice A1 m1 c1, .slice A2 m2 c2] 38 (0, 0)) from by
    rw [← HW2.out, ← HZ.out, Below.heap_alloc _ _ _ (by simp)]
    exact heap_alloc_new w _)
  have HK2 := Lib.hid (show W2.heap[z + 1]? = some (.cells #[.int .i64 0, .slice none 0 0, .slice none 0 0] 38 (0, 0)) from by
    rw [← HW2.out, ← HZ.out]
    have := heap_alloc_new (w.alloc (.cells #[.int .i64 id, .slice A1 m1 c1, .slice A2 m2 c2] 38)) (.cells #[.int .i64 0, .slice none 0 0, .slice none 0 0] 38)
    simpa using this)
  have HC := Lib.hid (cloneT_any n.labels F A1 m1 c1 (by omega) W2 (fun g hg => by have := HF.out g hg; have := HB2.out.size; omega) (HL1.out.under TxR.good HB2.out HF.out))
  have b1 : W2.cell? ⟨z, 1, none⟩ = some (.slice A1 m1 c1) := Lib.cell_of_heap HK1.out 1
  go_enter Tryz.func31, Tryz.ntmps31
  go_upto_region 1 with fail
  rw [HW2.out, HZ.out]
  go_wp2_with fail
  refine HC.out.mono ?_
  rintro e w3 ⟨s3, rfl, hb3, ho3, hs3⟩
  obtain ⟨A3, c3, rfl⟩ := ho3.form
  rw [Hm1.out] at ho3 hs3 ⊢
  have HB3 := Lib.hid hb3
  have HO3 := Lib.hid (ho3.tx (F' := fun b => W2.heap.size ≤ b ∧ b < w3.heap.size) (fun g hg => ⟨hs3 g hg, by obtain ⟨cs, h1, _⟩ := ho3; exact (h1.lt g hg).2⟩))
  have HK13 := Lib.hid ((hb3.block z (by rw [HS2.out]; omega)).trans HK1.out)
  have HK23 := Lib.hid ((hb3.block (z + 1) (by rw [HS2.out]; omega)).trans HK2.out)
  have hz3 : z + 2 ≤ w3.heap.size := by have := hb3.size; have := HS2.out; omega
  clear hb3 ho3 hs3 b1
  have d1 : w3.cell? ⟨z, 1, none⟩ = some (.slice A1 m1 c1) := Lib.cell_of_heap HK13.out 1
  have f1 : w3.frozen? ⟨z, 1, none⟩ = false := Lib.frozen_of_heap HK13.out 1
  go_upto_region 2 with fail
  obtain ⟨w4, HW4⟩ := name_itV (w3.setCell ⟨z, 1, none⟩ (.slice A3 m1 c3))
  have HT4 := Lib.hid (show Turn (fun b => b = z) w3 w4 from by rw [← HW4.out]; exact (Turn.refl (fun b => b = z) w3).setCell (p := ⟨z, 1, none⟩) (.inr rfl) _)
  have HK14 := Lib.hid (show w4.heap[z]? = some (.cells #[.int .i64 id, .slice A3 m1 c3, .slice A2 m2 c2] 38 (0, 0)) from by rw [← HW4.out]; exact heap_setCell_same w3 z 1 _ _ _ HK13.out)
  have HK24 := Lib.hid ((HT4.out.block (z + 1) (by omega) (by omega)).trans HK23.out)
  have HO4 := Lib.hid (HO3.out.turn TxR.good HT4.out (fun b hb => hb.2) (fun b hb e => by have := hb.1; have := HS2.out; omega))
  have HS := Lib.hid (sortT_own HO4.out (by rw [Hm1.out]; omega))
  rw [HW4.out]
  have g1 : w4.cell? ⟨z, 1, none⟩ = some (.slice A3 m1 c3) := Lib.cell_of_heap HK14.out 1
  clear d1 f1
  go_wp2_with fail
  refine HS.out.mono ?_
  rintro e w5 ⟨rfl, labels, hsrt, hr5, ht5, hro5⟩
  rw [Hm1.out] at hro5
  have HRO5 := Lib.hid hro5
  have hown : ∀ b, (Value.slice A3 m1 c3).ownBlock = some b → W2.heap.size ≤ b := fun b hb => by obtain ⟨cs, _, _, hFw, _⟩ := HO4.out; exact (hFw b hb).1
  have HOW := Lib.hid hown
  have HSRT := Lib.hid hsrt
  have HR5 := Lib.hid hr5
  have HT5 := Lib.hid ht5
  have hs34 : w3.heap.size ≤ w4.heap.size := HT4.out.size
  have hs45 : w4.heap.size ≤ w5.heap.size := ht5.size
  have HK15 := Lib.hid ((ht5.block z (by omega) (fun h => by have := hown z h; have := HS2.out; omega)).trans HK14.out)
  have HK25 := Lib.hid ((ht5.block (z + 1) (by omega) (fun h => by have := hown (z + 1) h; have := HS2.out; omega)).trans HK24.out)
  have HB5 := Lib.hid (show Below w.heap.size w w5 from
    ((HB2.out.trans (HB3.out.mono HB2.out.size)).trans (HT4.out.below (fun i _ hi => by have := HZ.out; omega) (by have := HZ.out; omega))).trans (ht5.below (fun i _ hi => by have := hown i hi; have := HS2.out; have := HZ.out; omega) (by have := HZ.out; omega)))
  have HP := Lib.hid (pairs_any n.props (fun p hp => ⟨HFIT.out.2.2.2 p hp, HFLAT.out p hp⟩) HFIT.out.2.1 F A2 m2 c2 w5 (fun g hg => Nat.lt_of_lt_of_le (HF.out g hg) HB5.out.size) (HL2.out.under PaR.good HB5.out HF.out))
  have g2 : w5.cell? ⟨z, 2, none⟩ = some (.slice A2 m2 c2) := Lib.cell_of_heap HK15.out 2
  clear hsrt hr5 ht5 hown hro5 g1
  go_wp2_with fail
  refine HP.out.mono ?_
  rintro e w6 ⟨s6, rfl, hb6, props, hsp, A6, c6, rfl, hc6, hr6⟩
  obtain ⟨m6, Hm6⟩ := name_itV props.length
  rw [Hm6.out] at hr6 hc6 ⊢
  have HB6 := Lib.hid hb6
  have HSP := Lib.hid hsp
  have HR6 := Lib.hid (And.intro hc6 hr6)
  have hs56 : w5.heap.size ≤ w6.heap.size := hb6.size
  have HK16 := Lib.hid ((hb6.block z (by omega)).trans HK15.out)
  have HK26 := Lib.hid ((hb6.block (z + 1) (by omega)).trans HK25.out)
  have g2 : w6.cell? ⟨z, 2, none⟩ = some (.slice A2 m2 c2) := Lib.cell_of_heap HK16.out 2
  have f2 : w6.frozen? ⟨z, 2, none⟩ = false := Lib.frozen_of_heap HK16.out 2
  clear hb6 hsp hc6 hr6
  go_upto_region 4 with fail
  obtain ⟨w7, HW7⟩ := name_itV (w6.setCell ⟨z, 2, none⟩ (.slice A6 m6 c6))
  have HT7 := Lib.hid (show Turn (fun b => b = z) w6 w7 from by rw [← HW7.out]; exact (Turn.refl (fun b => b = z) w6).setCell (p := ⟨z, 2, none⟩) (.inr rfl) _)
  have HK17 := Lib.hid (show w7.heap[z]? = some (.cells #[.int .i64 id, .slice A3 m1 c3, .slice A6 m6 c6] 38 (0, 0)) from by rw [← HW7.out]; exact heap_setCell_same w6 z 2 _ _ _ HK16.out)
  have HK27 := Lib.hid ((HT7.out.block (z + 1) (by omega) (by omega)).trans HK26.out)
  rw [HW7.out]
  have g0 : w7.cell? ⟨z, 0, none⟩ = some (.int .i64 id) := Lib.cell_of_heap HK17.out 0
  have g1 : w7.cell? ⟨z, 1, none⟩ = some (.slice A3 m1 c3) := Lib.cell_of_heap HK17.out 1
  have g2 : w7.cell? ⟨z, 2, none⟩ = some (.slice A6 m6 c6) := Lib.cell_of_heap HK17.out 2
  have r0 : w7.cell? ⟨z + 1, 0, none⟩ = some (.int .i64 0) := Lib.cell_of_heap HK27.out 0
  have y0 : w7.frozen? ⟨z + 1, 0, none⟩ = false := Lib.frozen_of_heap HK27.out 0
  have r1 : w7.cell? ⟨z + 1, 1, none⟩ = some (.slice none 0 0) := Lib.cell_of_heap HK27.out 1
  have y1 : w7.frozen? ⟨z + 1, 1, none⟩ = false := Lib.frozen_of_heap HK27.out 1
  have r2 : w7.cell? ⟨z + 1, 2, none⟩ = some (.slice none 0 0) := Lib.cell_of_heap HK27.out 2
  have y2 : w7.frozen? ⟨z + 1, 2, none⟩ = false := Lib.frozen_of_heap HK27.out 2
  go_wp2_with fail
  obtain ⟨w9, HW9⟩ := name_itV (((w7.setCell ⟨z + 1, 0, none⟩ (.int .i64 id)).setCell ⟨z + 1, 1, none⟩ (.slice A3 m1 c3)).setCell ⟨z + 1, 2, none⟩ (.slice A6 m6 c6))
  have hz9 : w9.heap[z + 1]? = some (.cells #[.int .i64 id, .slice A3 m1 c3, .slice A6 m6 c6] 38 (0, 0)) := by
    rw [← HW9.out]
    exact heap_setCell_same _ (z + 1) 2 _ _ _ (heap_setCell_same _ (z + 1) 1 _ _ _ (heap_setCell_same _ (z + 1) 0 _ _ _ HK27.out))
  have HT9 := Lib.hid (show Turn (fun b => b = z ∨ b = z + 1) w6 w9 from by
    rw [← HW9.out]
    exact (((HT7.out.mono (S' := fun b => b = z ∨ b = z + 1) (fun i _ h => .inl h)).setCell (p := ⟨z + 1, 0, none⟩) (.inr (.inr rfl)) _).setCell (p := ⟨z + 1, 1, none⟩) (.inr (.inr rfl)) _).setCell (p := ⟨z + 1, 2, none⟩) (.inr (.inr rfl)) _)
  rw [HW9.out]
  have q0 : w9.cell? ⟨z + 1, 0, none⟩ = some (.int .i64 id) := Lib.cell_of_heap hz9 0
  have q1 : w9.cell? ⟨z + 1, 1, none⟩ = some (.slice A3 m1 c3) := Lib.cell_of_heap hz9 1
  have q2 : w9.cell? ⟨z + 1, 2, none⟩ = some (.slice A6 m6 c6) := Lib.cell_of_heap hz9 2
  clear hz9 r0 r1 r2 y0 y1 y2 g0 g1 g2 f2
  go_wp2_with fail
  refine bodyPost_ret (v := .agg #[.int .i64 id, .slice A3 m1 c3, .slice A6 m6 c6]) (by simp [results, Tryz.results31, go_sem, q0, q1, q2]) rfl ⟨_, ⟨id, labels, props⟩, rfl, ?_, ⟨Hid.out.symm, HSRT.out, HSP.out⟩, ⟨_, _, rfl, ?_, ?_⟩, .slice A3 m1 c3, rfl, ?_, ?_⟩
  · exact (HB5.out.trans (HB6.out.mono HB5.out.size)).trans (HT9.out.below (fun i _ h => by have := HZ.out; omega) (by have := HZ.out; omega))
  · have hk : ∀ p : Addr, W2.heap.size ≤ p.block ∧ p.block < w3.heap.size → w9.cell? p = w5.cell? p := fun p hp =>
      (HT9.out.cell (by omega) (fun h => by have := hp.1; have := HS2.out; omega)).trans (HB6.out.cell (by omega))
    refine SlR.mono TxR.good (SlR.keep TxR.good HR5.out hk) (fun b hb => ⟨?_, ?_⟩)
    · have := hb.1; have := HS2.out; have := HZ.out; omega
    · have := hb.2; have := HT9.out.size; omega
  · obtain ⟨hc6, hr6⟩ := HR6.out
    have hk : ∀ p : Addr, w5.heap.size ≤ p.block ∧ p.block < w6.heap.size → w9.cell? p = w6.cell? p := fun p hp =>
      HT9.out.cell hp.2 (fun h => by have := hp.1; omega)
    refine SlR.mono PaR.good (SlR.keep (s := .slice A6 m6 c6) PaR.good ⟨A6, c6, by rw [Hm6.out], by rw [Hm6.out]; exact hc6, by rw [Hm6.out]; exact hr6⟩ hk) (fun b hb => ⟨?_, ?_⟩)
    · have := hb.1; have := HZ.out; omega
    · have := hb.2; have := HT9.out.size; omega
  · obtain ⟨xs, hxs⟩ := HRO5.out
    refine ⟨m1, xs, HT9.out.owns ((Turn.of_below HB6.out).owns hxs (fun k hk h => ?_)) (fun k hk h => ?_), hm1⟩
    · have h1 : w5.heap.size ≤ k := h
      have := (hxs.lt k hk).2
      omega
    · have h1 := HOW.out k hk
      have := HS2.out
      omega
  · intro g hg
    obtain ⟨xs, hxs⟩ := HRO5.out
    have h1 := HOW.out g hg
    have h2 := (hxs.lt g hg).2
    have := HS2.out
    have := HZ.out
    have := HT9.out.size
    omega

end Go.Proofs.YtmhjbicbdahllaaGreatDoor

namespace Go.Proofs.YtmhjbicbdahllaaGreatDoor
open Go Go.RowKit

theorem own_lt {α : Type} {E sz : Nat} {R : Lies α} {w : World} {F : Nat → Prop} {l : List α} {s : Value} (h : SOwn E sz R w F l s) {g : Nat} (hg : s.ownBlock = some g) : g < w.heap.size := by
  obtain ⟨cs, hrow, _⟩ := h
  exact (hrow.lt g hg).2
theorem own_in {α : Type} {E sz : Nat} {R : Lies α} {w : World} {F : Nat → Prop} {l : List α} {s : Value} (h : SOwn E sz R w F l s) {g : Nat} (hg : s.ownBlock = some g) : F g := by
  obtain ⟨cs, _, _, hF, _⟩ := h
  exact hF g hg
/-- The labels of a row of nodes may be written, each in a block of its own, from lo on, below hi. -/
def LabS (w : World) (lo hi : Nat) (s : Value) (n : Nat) : Prop :=
  ∃ Ls : Nat → Value, (∀ i, i < n → (∃ g, s.ownBlock = some g ∧ w.cell? ⟨g, i * 3 + 1, none⟩ = some (Ls i)) ∧ WT w (Ls i) ∧ ∀ g, (Ls i).ownBlock = some g → lo ≤ g ∧ g < hi) ∧
    ∀ i j g, i < j → j < n → (Ls i).ownBlock = some g → (Ls j).ownBlock ≠ some g
theorem LabS.nil (w : World) (lo hi : Nat) (s : Value) : LabS w lo hi s 0 := ⟨fun _ => .slice none 0 0, fun _ h => absurd h (Nat.not_lt_zero _), fun _ _ _ _ h => absurd h (Nat.not_lt_zero _)⟩
theorem LabS.turn {S : Nat → Prop} {w w' : World} {lo hi n : Nat} {s : Value} (h : LabS w lo hi s n) (ht : Turn S w w') (hs : ∀ g, s.ownBlock = some g → g < w.heap.size ∧ ¬ S g) (hl : ∀ g, lo ≤ g → g < hi → g < w.heap.size → ¬ S g) : LabS w' lo hi s n := by
  obtain ⟨Ls, h1, h2⟩ := h
  refine ⟨Ls, fun i hi => ?_, h2⟩
  obtain ⟨⟨g, hg, hc⟩, hw, hb⟩ := h1 i hi
  exact ⟨⟨g, hg, (ht.cell (p := ⟨g, i * 3 + 1, none⟩) (hs g hg).1 (hs g hg).2).trans hc⟩, hw.turn ht (fun k hk => hl k (hb k hk).1 (hb k hk).2 (hw.lt k hk)), hb⟩
theorem LabS.low {w : World} {lo lo' hi hi' n : Nat} {s : Value} (h : LabS w lo hi s n) (hl : lo' ≤ lo) (hh : hi ≤ hi') : LabS w lo' hi' s n := by
  obtain ⟨Ls, h1, h2⟩ := h
  exact ⟨Ls, fun i hi => ⟨(h1 i hi).1, (h1 i hi).2.1, fun g hg => ⟨Nat.le_trans hl ((h1 i hi).2.2 g hg).1, Nat.lt_of_lt_of_le ((h1 i hi).2.2 g hg).2 hh⟩⟩, h2⟩
/-- One node more. -/
theorem LabS.put {w5 w6 w7 : World} {lo k q j : Nat} {A3 : Option Addr} {c3 : Nat} {cs : Nat → Array Value} {c : Array Value} {g7 c7 : Nat} {v : Value} (hq : q < lo)
    (h : LabS w5 lo w5.heap.size (.slice A3 k c3) k) (hrow : w5.ownsRow 0 38 3 (.slice A3 k c3) k (flatC cs k)) (h3c : ∀ i, i < k → (cs i).size = 3) (hF : ∀ b, (Value.slice A3 k c3).ownBlock = some b → lo ≤ b ∧ b < w5.heap.size)
    (hb6 : Below w5.heap.size w5 w6) (hL : ∃ L, c[1]? = some L ∧ WT w6 L ∧ ∀ g, L.ownBlock = some g → w5.heap.size ≤ g ∧ g < w6.heap.size) (_hc : c.size = 3) (hg : w6.grownBy w7 (Value.slice A3 k c3).ownBlock) (hl : (Value.slice A3 k c3).ownBlock = some g7 ∨ g7 = w6.heap.size + 1)
    (ho : w7.ownsRow 0 38 3 (.slice (some ⟨g7, 0, none⟩) (k + 1) c7) (k + 1) (flatC cs k ++ c.toList)) (hq5 : q < w5.heap.size) (hlo : lo ≤ w5.heap.size) :
    LabS (w7.setCell ⟨q, j, none⟩ v) lo (w7.setCell ⟨q, j, none⟩ v).heap.size (.slice (some ⟨g7, 0, none⟩) (k + 1) c7) (k + 1) := by
  obtain ⟨L, hL1, hL2, hL3⟩ := hL
  obtain ⟨Ls, h1, h2⟩ := h
  have hs6 : w5.heap.size ≤ w6.heap.size := hb6.size
  have hs7 : w6.heap.size ≤ w7.heap.size := hg.size
  have hfl := flatC_length h3c
  have hrow6 := (Turn.of_below hb6).owns hrow (fun g hg h => by have h3 : w5.heap.size ≤ g := h; have := (hF g hg).2; omega)
  have hne : ∀ s : Value, WT w6 s → ∀ g, s.ownBlock = some g → ¬ some g = (Value.slice A3 k c3).ownBlock := fun s hs g hsg e => by
    obtain ⟨cur, hcur⟩ := own_type hrow6 e.symm
    exact hs.ne hcur (by decide) hsg
  have htw : ∀ s : Value, WT w6 s → WT w7 s := fun s hs => hs.turn (Turn.of_grown hg) (hne s hs)
  have h6 : ∀ i, i < k → WT w6 (Ls i) := fun i hi => (h1 i hi).2.1.turn (Turn.of_below hb6) (fun g hg h => by have h3 : w5.heap.size ≤ g := h; have := ((h1 i hi).2.2 g hg).2; omega)
  have h7 : LabS w7 lo w6.heap.size (.slice (some ⟨g7, 0, none⟩) (k + 1) c7) (k + 1) := by
    refine ⟨fun i => if i < k then Ls i else L, fun i hi => ?_, fun i j g hij hj hg1 hg2 => ?_⟩
    · have hca := ho.cellAt (i * 3 + 1) (by omega)
      by_cases hik : i < k
      · simp only [if_pos hik]
        refine ⟨⟨g7, rfl, ?_⟩, htw _ (h6 i hik), fun g hg => ?_⟩
        · rw [hca, List.getElem?_append_left (by rw [hfl]; omega)]
          obtain ⟨⟨g, hg, hcell⟩, _⟩ := h1 i hik
          obtain ⟨g', cp', hv, _, _⟩ := hrow.form (by omega)
          injection hv with hA _ hcp
          subst hA
          have := hrow.cellAt (i * 3 + 1) (by omega)
          rw [← this, ← hcell]
          have hgg : g' = g := by injection hg
          rw [hgg]
        · have := (h1 i hik).2.2 g hg
          exact ⟨this.1, by omega⟩
      · have hik2 : i = k := by omega
        subst hik2
        simp only [if_neg hik]
        refine ⟨⟨g7, rfl, ?_⟩, htw _ hL2, fun g hg => ?_⟩
        · rw [hca, List.getElem?_append_right (by rw [hfl]; omega), hfl]
          rw [show i * 3 + 1 - i * 3 = 1 by omega, Array.getElem?_toList, hL1]
        · have h3 := hL3 g hg
          exact ⟨by omega, h3.2⟩
    · by_cases hjk : j < k
      · simp only [if_pos hjk, if_pos (show i < k by omega)] at hg1 hg2
        exact h2 i j g hij hjk hg1 hg2
      · simp only [if_neg hjk, if_pos (show i < k by omega)] at hg1 hg2
        have e1 := ((h1 i (by omega)).2.2 g hg1).2
        have e2 := (hL3 g hg2).1
        omega
  refine (h7.turn ((Turn.refl (fun b => b = q) w7).setCell (p := ⟨q, j, none⟩) (.inr rfl) v) (fun g hg => ?_) (fun g hg _ _ e => by omega)).low (Nat.le_refl _) (by simp only [World.size_setCell]; omega)
  injection hg with hg
  subst hg
  refine ⟨(ho.lt g7 rfl).2, fun e => ?_⟩
  have e2 : g7 = q := e
  rcases hl with e1 | e1
  · have := (hF g7 e1).1; omega
  · omega
/-- Elsewhere something grows. -/
theorem LabS.far {wr w5 w6 w7 : World} {lo z2 q k : Nat} {s u v : Value} {j : Nat} (h : LabS wr lo z2 s k) (hs : ∀ g, s.ownBlock = some g → lo ≤ g ∧ g < z2) (hz : z2 ≤ wr.heap.size) (hb5 : Below wr.heap.size wr w5) (hb6 : Below w5.heap.size w5 w6) (hg : w6.grownBy w7 u.ownBlock) (hu : ∀ b, u.ownBlock = some b → z2 ≤ b) (hq : q < lo) :
    LabS (w7.setCell ⟨q, j, none⟩ v) lo z2 s k := by
  have hs5 : wr.heap.size ≤ w5.heap.size := hb5.size
  have ht : Turn (fun b => z2 ≤ b ∨ b = q) wr (w7.setCell ⟨q, j, none⟩ v) :=
    ((((Turn.of_below hb5).mono (S' := fun b => z2 ≤ b ∨ b = q) (fun i _ h => .inl (by have h1 : wr.heap.size ≤ i := h; omega))).trans ((Turn.of_below hb6).mono (fun i _ h => .inl (by have h1 : w5.heap.size ≤ i := h; omega)))).trans ((Turn.of_grown hg).mono (fun i _ h => .inl (hu i h.symm)))).setCell (p := ⟨q, j, none⟩) (.inr (.inr rfl)) v
  refine h.turn ht (fun g hg => ⟨by have := hs g hg; omega, fun h => ?_⟩) (fun g h1 h2 _ h => ?_)
  · have := hs g hg
    rcases h with h | h <;> omega
  · rcases h with h | h <;> omega
/-- 'Plain' copies the store's graph, in memory of its own. -/
def PlainOwn (G : GraphD) (w : World) (e : Ending) (w' : World) : Prop :=
  ∃ (A : Option Addr) (c : Nat) (B : Option Addr) (d : Nat) (ns : List NodeD) (es : List EdgeD), e = .returned (.agg #[.slice A ns.length c, .slice B es.length d]) ∧ Below w.heap.size w w' ∧ GrR w' (fun b => w.heap.size ≤ b ∧ b < w'.heap.size) ⟨ns, es⟩ (.agg #[.slice A ns.length c, .slice B es.length d]) ∧ All2 SrtN G.nodes ns ∧ All2 SrtE G.edges es ∧
    SOwn 38 3 NoR w' (fun b => w.heap.size ≤ b ∧ b < w'.heap.size) ns (.slice A ns.length c) ∧ SOwn 41 5 EdR w' (fun b => w.heap.size ≤ b ∧ b < w'.heap.size) es (.slice B es.length d) ∧ LabS w' w.heap.size w'.heap.size (.slice A ns.length c) ns.length
set_option maxRecDepth 100000 in
set_option maxHeartbeats 8000000 in
theorem plain_own (G : GraphD) (lo p : Nat) (Ns0 Es0 : Value) (mh mt ma mid n0 : Nat) (w : World) (hst : StoreAt w lo p G Ns0 Es0 mh mt ma mid n0) (hfit : FitG G) (hflN : ∀ n, n ∈ G.nodes → FlatN n) (hflE : ∀ e, e ∈ G.edges → FlatE e) :
    Calls Tryz.prog 15 #[.pointer (some ⟨p, 0, none⟩)] w (PlainOwn G w) := by
  have HFIT := Lib.hid hfit
  have HFN := Lib.hid hflN
  have HFE := Lib.hid hflE
  obtain ⟨AN, cN, hNe, _, hNr⟩ := hst.nodes
  obtain ⟨AE, cE, hEe, _, hEr⟩ := hst.edges
  obtain ⟨nN, HnN⟩ := name_itV G.nodes.length
  obtain ⟨nE, HnE⟩ := name_itV G.edges.length
  have hgn : nN ≤ 2000000 := by rw [← HnN.out]; exact hfit.1
  have hge : nE ≤ 2000000 := by rw [← HnE.out]; exact hfit.2.1
  rw [HnN.out] at hNe hNr
  rw [HnE.out] at hEe hEr
  subst hNe hEe
  have HST := Lib.hid hst
  obtain ⟨z, HZ⟩ := name_itV w.heap.size
  have HNR := Lib.hid (hNr.mono NoR.good (F' := fun b => b < z) (fun b hb => by have := hst.loc; have := HZ.out; omega))
  have HER := Lib.hid (hEr.mono EdR.good (F' := fun b => b < z) (fun b hb => by have := hst.loc; have := HZ.out; omega))
  have hpz : p < z := by rw [← HZ.out]; exact blk_lt hst.blk
  clear hst hfit hflN hflE hNr hEr
  obtain ⟨w1, HW1⟩ := name_itV ((w.alloc (.cells #[.slice none 0 0, .slice none 0 0] 25)).alloc (.cells #[.slice none 0 0, .slice none 0 0] 25))
  have HB1 := Lib.hid (show Below w.heap.size w w1 from by rw [← HW1.out]; exact two_new w _ _)
  have HL0 := Lib.hid (show Pl1 w z [] (.slice none 0 0) w1 from by
    refine ⟨by rw [← HZ.out]; exact HB1.out, ?_, ?_, SOwn.nil ..⟩
    · rw [← HW1.out, Below.heap_alloc _ _ _ (by rw [← HZ.out]; simp), ← HZ.out]
      exact heap_alloc_new w _
    · have := heap_alloc_new (w.alloc (.cells #[.slice none 0 0, .slice none 0 0] 25)) (.cells #[.slice none 0 0, .slice none 0 0] 25)
      rw [HW1.out] at this
      simpa [HZ.out] using this)
  have x0 : w1.cell? ⟨p, 0, none⟩ = some (.slice AN nN cN) := (HB1.out.cell (blk_lt HST.out.blk)).trans (Lib.cell_of_heap HST.out.blk 0)
  go_enter Tryz.func15, Tryz.ntmps15
  go_upto_region 2 with fail
  rw [HZ.out, HW1.out]
  go_wp2_with fail
  clear x0
  go_loopw [13] (fun s wx => ∃ (k : Nat) (xs : List NodeD) (Xs : Value), k ≤ nN ∧ s = .int .i64 (k : Nat) ∧ Hid (Pl1 w z xs Xs wx ∧ All2 SrtN (G.nodes.take k) xs ∧ LabS wx (z + 2) wx.heap.size Xs k)) (fun s _ => nN - (intOf s).toNat)
  case atStart => exact ⟨0, [], _, by omega, rfl, Lib.hid ⟨HL0.out, by rw [List.take_zero]; exact All2.nil _, LabS.nil ..⟩⟩
  case round =>
    obtain ⟨k, xs, Xs, hk, rfl, hM2⟩ := hrel
    have hM := Lib.hid hM2.out.1
    have HALL := Lib.hid hM2.out.2.1
    have HLAB := Lib.hid hM2.out.2.2
    clear hM2
    by_cases hlt : k < nN
    · obtain ⟨x, hx⟩ : ∃ x, G.nodes[k]? = some x := ⟨G.nodes[k]'(by rw [HnN.out]; exact hlt), List.getElem?_eq_getElem _⟩
      have HX := Lib.hid hx
      have hfx := Lib.hid (HFIT.out.2.2.1 x (List.mem_of_getElem? hx))
      have hfl := Lib.hid (HFN.out x (List.mem_of_getElem? hx))
      obtain ⟨ad, A1, d1, A2, d2, rfl, hFa, hNo, hl1, hl2, q0, q1, q2⟩ := nodesAt (HNR.out.under NoR.good hM.out.below (fun b hb => hb)) hx
      have HNO2 := Lib.hid hNo
      clear hx hFa hNo hl1 hl2
      obtain ⟨id, Hxid⟩ := name_itV x.id
      obtain ⟨m1, Hm1⟩ := name_itV x.labels.length
      obtain ⟨m2, Hm2⟩ := name_itV x.props.length
      rw [Hxid.out] at q0 HNO2
      rw [Hm1.out] at q1 HNO2
      rw [Hm2.out] at q2 HNO2
      obtain ⟨zn, Hzn⟩ := name_itV wr.heap.size
      obtain ⟨w5, HW5⟩ := name_itV (wr.alloc (.cells #[.int .i64 id, .slice A1 m1 d1, .slice A2 m2 d2] 38))
      have HB5 := Lib.hid (show Below wr.heap.size wr w5 from by rw [← HW5.out]; exact (Below.refl _ _).alloc (Nat.le_refl _) _)
      have HK5 := Lib.hid (show w5.heap[zn]? = some (.cells #[.int .i64 id, .slice A1 m1 d1, .slice A2 m2 d2] 38 (0, 0)) from by rw [← HW5.out, ← Hzn.out]; exact heap_alloc_new wr _)
      have HM5 := Lib.hid (hM.out.on HB5.out)
      have HLAB5 := Lib.hid ((HLAB.out.turn (Turn.of_below HB5.out) (fun g hg => ⟨own_lt hM.out.own hg, fun h => by have := own_lt hM.out.own hg; have h2 : wr.heap.size ≤ g := h; omega⟩) (fun g _ h1 _ h2 => by have h3 : wr.heap.size ≤ g := h2; omega)).low (Nat.le_refl _) HB5.out.size)
      have hlen : xs.length = k := by rw [← HALL.out.1, List.length_take, HnN.out]; omega
      have HLEN := Lib.hid hlen
      obtain ⟨A3, c3, h3⟩ := HM5.out.own.form
      rw [hlen] at h3
      subst h3
      have HBz5 := Lib.hid (show Below z w w5 from HM5.out.below)
      have hzw5 := Lib.hid (show z + 1 < w5.heap.size from blk_lt HM5.out.box)
      have hnd := Lib.hid (node_own x hfx.out.1 hfl.out (fun b => b < z) _ w5.drew (fun b hb => by show b < w5.heap.size; have := hzw5.out; omega) (NoR.good.keep HNO2.out (w' := w5.drew) (fun q hq => (HB5.out.cell (Nat.lt_of_lt_of_le hq (by have := blk_lt hM.out.box; omega))))))
      obtain ⟨cs, hrow, h3c, hFw, hr⟩ := HM5.out.own
      rw [hlen] at hrow h3c
      have HROW := Lib.hid hrow
      have HFW := Lib.hid (show ∀ b, (Value.slice A3 k c3).ownBlock = some b → z + 2 ≤ b ∧ b < w5.heap.size from hFw)
      have HREST := Lib.hid (And.intro h3c hr)
      have g0 : w5.drew.cell? ⟨z + 1, 0, none⟩ = some (.slice A3 k c3) := Lib.cell_of_heap HM5.out.box 0
      have n0 : w5.drew.cell? ⟨zn, 0, none⟩ = some (.int .i64 id) := Lib.cell_of_heap HK5.out 0
      have n1 : w5.drew.cell? ⟨zn, 1, none⟩ = some (.slice A1 m1 d1) := Lib.cell_of_heap HK5.out 1
      have n2 : w5.drew.cell? ⟨zn, 2, none⟩ = some (.slice A2 m2 d2) := Lib.cell_of_heap HK5.out 2
      clear hlen hrow h3c hFw hr hM
      obtain ⟨i0, hi0, hz0a, hz1a, hz2a⟩ := info_parts infoNode
      have e1 : (0 : Int) ≤ k := by omega
      have e2 : (k : Int) < nN := by omega
      go_upto_region 5 with fail
      rw [Hzn.out, HW5.out]
      clear q0 q1 q2
      go_region_law (first | (refine step_append_lies _ rfl _ _ 22 rfl 0 38 i0 (.agg #[.int .i64 0, .slice none 0 0, .slice none 0 0]) 3 56 Tryz.underlying22 hi0 hz0a hz1a hz2a rfl (by decide) (.slice A3 k c3) k (flatC cs k) rfl (by exact HROW6.out.alloc _) ⟨w6.heap.size, 0, none⟩ 1 1 [.int .i64 id, .slice A6 q6 c6, .slice B6 r6 cb6] rfl rfl (World.news_of_block (cs := #[.int .i64 id, .slice A6 q6 c6, .slice B6 r6 cb6]) (by exact NB.out)) HONE.out (by omega) (by unfold maxLen; omega) (by omega) (Nat.zero_le _) (w6.heap.size + 1) (by exact HS6.out) (fun g7 c7 w7 ho7 hg7 hl7 _ => ?_); have HO7 := Lib.hid ho7; have HG7 := Lib.hid (show w6.grownBy w7 (Value.slice A3 k c3).ownBlock from grown_after (w := w6) (o := .cells #[.int .i64 id, .slice A6 q6 c6, .slice B6 r6 cb6] 38) ⟨hg7.os, hg7.tape, hg7.output, hg7.size, hg7.block⟩); have HL7 := Lib.hid (show (Value.slice A3 k c3).ownBlock = some g7 ∨ g7 = w6.heap.size + 1 from hl7); have HC7 := Lib.hid ((HG7.out.block (z + 1) (by have := HSZ6.out; omega) (fun e => by have := HFW.out (z + 1) e.symm; omega)).trans HST6.out); have f7 : w7.frozen? ⟨z + 1, 0, none⟩ = false := Lib.frozen_of_heap HC7.out 0; have g7c : w7.cell? ⟨z + 1, 0, none⟩ = some (.slice A3 k c3) := Lib.cell_of_heap HC7.out 0; clear ho7 hg7 hl7) | (go_simp; go_at_call 31; (with_reducible refine hnd.out.mono ?_); rintro e w6 ⟨cc, n', rfl, hb6, hsrt, hno6, hlb6⟩; have HN6 := Lib.hid hno6; have HLB6 := Lib.hid hlb6; clear hlb6; obtain ⟨L6, P6, rfl, ⟨A6, c6, rfl, _, _⟩, B6, cb6, rfl, _, _⟩ := hno6; obtain ⟨q6, Hq6⟩ := name_itV n'.labels.length; obtain ⟨r6, Hr6⟩ := name_itV n'.props.length; rw [Hq6.out, Hr6.out] at HN6 HLB6 ⊢; rw [hsrt.1, Hxid.out] at HN6 HLB6 ⊢; have HB6 := Lib.hid hb6; have HSRT := Lib.hid hsrt; have HSZ6 := Lib.hid (show z + 1 < w6.heap.size from by have h1 : w5.heap.size ≤ w6.heap.size := hb6.size; have := hzw5.out; omega); have HROW6 := Lib.hid ((Turn.of_below hb6).owns HROW.out (fun g hg h => by have := HFW.out g hg; have h2 : w5.heap.size ≤ g := h; omega)); have HST6 := Lib.hid ((hb6.block (z + 1) (by show z + 1 < w5.heap.size; exact hzw5.out)).trans HM5.out.box); have g6a : w6.cell? ⟨z + 1, 0, none⟩ = some (.slice A3 k c3) := Lib.cell_of_heap HST6.out 0; have g6b : (w6.alloc (.cells #[.int .i64 id, .slice A6 q6 c6, .slice B6 r6 cb6] 38)).cell? ⟨z + 1, 0, none⟩ = some (.slice A3 k c3) := (World.cell?_alloc_lt w6 _ _ (by show z + 1 < _; exact HSZ6.out)).trans g6a; have HONE := Lib.hid (show ∀ u ∈ ([.int .i64 id, .slice A6 q6 c6, .slice B6 r6 cb6] : List Value), u.oneCell' = true from fun u hu => by simp at hu; rcases hu with rfl | rfl | rfl <;> rfl); have NB := Lib.hid (heap_alloc_new w6 (.cells #[.int .i64 id, .slice A6 q6 c6, .slice B6 r6 cb6] 38)); have HS6 := Lib.hid (show (w6.alloc (.cells #[.int .i64 id, .slice A6 q6 c6, .slice B6 r6 cb6] 38)).heap.size = w6.heap.size + 1 by simp); clear hb6 hsrt))
      all_goals (
        have w1 : IntKind.i64.wrap ((k : Int) + 1) = (k : Int) + 1 := IntWalk.i64_in _ (by omega)
        go_wp2_with fail
        go_roundw)
      all_goals first
        | (case measure => simp [intOf]; omega)
        | (case rel =>
            refine ⟨k + 1, xs ++ [n'], .slice (some ⟨g7, 0, none⟩) (k + 1) c7, by omega, by go_num, Lib.hid ⟨?_, by rw [take_oneMore HX.out]; exact HALL.out.snoc HSRT.out, LabS.put (q := z + 1) (Nat.lt_succ_self _) HLAB5.out HROW.out HREST.out.1 HFW.out (below_of_drew HB6.out) HLB6.out rfl HG7.out HL7.out HO7.out hzw5.out (by have := hzw5.out; omega)⟩⟩
            exact Pl1.more HM5.out HLEN.out HFW.out HREST.out.1 HREST.out.2 (below_of_drew HB6.out) HN6.out rfl HG7.out HL7.out HO7.out)
    · have hke : nN = k := by omega
      have HAL := Lib.hid (show All2 SrtN G.nodes xs from by
        have h := HALL.out
        rw [List.take_of_length_le (by rw [HnN.out, hke]; exact Nat.le_refl _)] at h
        exact h)
      have hlen : xs.length = k := by rw [← HAL.out.1, HnN.out]; exact hke
      obtain ⟨A1N, c1N, hX⟩ := hM.out.own.form
      rw [hlen] at hX
      subst hX
      have HLX := Lib.hid hlen
      have hP2 := hM.out.next
      have HLB0 := Lib.hid HLAB.out
      obtain ⟨ns, hns⟩ : ∃ ns, ns = xs := ⟨xs, rfl⟩
      rw [← hns] at hP2 HAL HLX
      obtain ⟨z2, Hz2⟩ := name_itV wr.heap.size
      rw [Hz2.out] at hP2 HLB0
      obtain ⟨k1, hk1⟩ : ∃ k1, k1 = k := ⟨k, rfl⟩
      rw [← hk1] at hP2 HLX HLB0
      have HP2 := Lib.hid hP2
      have HK1 := Lib.hid hk1
      have x1 : wr.cell? ⟨p, 1, none⟩ = some (.slice AE nE cE) := (HP2.out.below.cell hpz).trans (Lib.cell_of_heap HST.out.blk 1)
      clear hlen hns hM hP2 HALL hk1
      subst hke
      go_upto_region 7 with fail
      go_wp2_with fail
      clear x1
      go_loopw [30] (fun s wx => ∃ (k : Nat) (xs : List EdgeD) (Xs : Value), k ≤ nE ∧ s = .int .i64 (k : Nat) ∧ Hid (Pl2 w z z2 ns xs (.slice A1N k1 c1N) Xs wx ∧ All2 SrtE (G.edges.take k) xs ∧ LabS wx (z + 2) z2 (.slice A1N k1 c1N) k1)) (fun s _ => nE - (intOf s).toNat)
      case atStart => exact ⟨0, [], _, by omega, rfl, Lib.hid ⟨HP2.out, by rw [List.take_zero]; exact All2.nil _, HLB0.out⟩⟩
      case round =>
        obtain ⟨k, xs, Xs, hk, rfl, hM2⟩ := hrel
        have hM := Lib.hid hM2.out.1
        have HALL := Lib.hid hM2.out.2.1
        have HLAB := Lib.hid hM2.out.2.2
        clear hM2
        by_cases hlt : k < nE
        · obtain ⟨x, hx⟩ : ∃ x, G.edges[k]? = some x := ⟨G.edges[k]'(by rw [HnE.out]; exact hlt), List.getElem?_eq_getElem _⟩
          have HX := Lib.hid hx
          have hfx := Lib.hid (HFIT.out.2.2.2 x (List.mem_of_getElem? hx))
          have hfl := Lib.hid (HFE.out x (List.mem_of_getElem? hx))
          obtain ⟨ad, A2, d2, rfl, hFa, hEd, hl2, q0, q1, q2, q3, q4⟩ := edgesAt (HER.out.under EdR.good hM.out.below (fun b hb => hb)) hx
          have HNO2 := Lib.hid hEd
          clear hx hFa hEd hl2
          obtain ⟨id, Hxid⟩ := name_itV x.id
          obtain ⟨src, Hsrc⟩ := name_itV x.src
          obtain ⟨dst, Hdst⟩ := name_itV x.dst
          obtain ⟨typ, Htyp⟩ := name_itV x.type
          obtain ⟨m2, Hm2⟩ := name_itV x.props.length
          rw [Hxid.out] at q0 HNO2
          rw [Hsrc.out] at q1 HNO2
          rw [Hdst.out] at q2 HNO2
          rw [Htyp.out] at q3 HNO2
          rw [Hm2.out] at q4 HNO2
          obtain ⟨zn, Hzn⟩ := name_itV wr.heap.size
          obtain ⟨w5, HW5⟩ := name_itV (wr.alloc (.cells #[.int .i64 id, .int .i64 src, .int .i64 dst, .string typ, .slice A2 m2 d2] 41))
          have HB5 := Lib.hid (show Below wr.heap.size wr w5 from by rw [← HW5.out]; exact (Below.refl _ _).alloc (Nat.le_refl _) _)
          have HK5 := Lib.hid (show w5.heap[zn]? = some (.cells #[.int .i64 id, .int .i64 src, .int .i64 dst, .string typ, .slice A2 m2 d2] 41 (0, 0)) from by rw [← HW5.out, ← Hzn.out]; exact heap_alloc_new wr _)
          have HM5 := Lib.hid (hM.out.on HB5.out)
          have HLOC := Lib.hid hM.out.loc.2
          have hlen : xs.length = k := by rw [← HALL.out.1, List.length_take, HnE.out]; omega
          have HLEN := Lib.hid hlen
          obtain ⟨A3, c3, h3⟩ := HM5.out.own.form
          rw [hlen] at h3
          subst h3
          have HBz5 := Lib.hid (show Below z w w5 from HM5.out.below)
          have hzw5 := Lib.hid (show z + 1 < w5.heap.size from blk_lt HM5.out.box)
          have hnd := Lib.hid (edge_any x hfx.out.1 hfl.out (fun b => b < z) _ w5.drew (fun b hb => by show b < w5.heap.size; have := hzw5.out; omega) (EdR.good.keep HNO2.out (w' := w5.drew) (fun q hq => (HB5.out.cell (Nat.lt_of_lt_of_le hq (by have := blk_lt hM.out.box; omega))))))
          obtain ⟨cs, hrow, h3c, hFw, hr⟩ := HM5.out.own
          rw [hlen] at hrow h3c
          have HROW := Lib.hid hrow
          have HFW := Lib.hid (show ∀ b, (Value.slice A3 k c3).ownBlock = some b → z2 ≤ b ∧ b < w5.heap.size from hFw)
          have HREST := Lib.hid (And.intro h3c hr)
          have g0 : w5.drew.cell? ⟨z + 1, 1, none⟩ = some (.slice A3 k c3) := Lib.cell_of_heap HM5.out.box 1
          have n0 : w5.drew.cell? ⟨zn, 0, none⟩ = some (.int .i64 id) := Lib.cell_of_heap HK5.out 0
          have n1 : w5.drew.cell? ⟨zn, 1, none⟩ = some (.int .i64 src) := Lib.cell_of_heap HK5.out 1
          have n2 : w5.drew.cell? ⟨zn, 2, none⟩ = some (.int .i64 dst) := Lib.cell_of_heap HK5.out 2
          have n3 : w5.drew.cell? ⟨zn, 3, none⟩ = some (.string typ) := Lib.cell_of_heap HK5.out 3
          have n4 : w5.drew.cell? ⟨zn, 4, none⟩ = some (.slice A2 m2 d2) := Lib.cell_of_heap HK5.out 4
          have hfar1 : z + 2 ≤ z2 := HM5.out.loc.1
          clear hlen hrow h3c hFw hr hM
          obtain ⟨i0, hi0, hz0a, hz1a, hz2a⟩ := info_parts infoEdge
          have e1 : (0 : Int) ≤ k := by omega
          have e2 : (k : Int) < nE := by omega
          go_upto_region 10 with fail
          rw [Hzn.out, HW5.out]
          clear q0 q1 q2 q3 q4
          go_region_law (first | (refine step_append_lies _ rfl _ _ 23 rfl 0 41 i0 (.agg #[.int .i64 0, .int .i64 0, .int .i64 0, .string ⟨#[]⟩, .slice none 0 0]) 5 64 Tryz.underlying23 hi0 hz0a hz1a hz2a rfl (by decide) (.slice A3 k c3) k (flatC cs k) rfl (by exact HROW6.out.alloc _) ⟨w6.heap.size, 0, none⟩ 1 1 [.int .i64 id, .int .i64 src, .int .i64 dst, .string typ, .slice B6 r6 cb6] rfl rfl (World.news_of_block (cs := #[.int .i64 id, .int .i64 src, .int .i64 dst, .string typ, .slice B6 r6 cb6]) (by exact NB.out)) HONE.out (by omega) (by unfold maxLen; omega) (by omega) (Nat.zero_le _) (w6.heap.size + 1) (by exact HS6.out) (fun g7 c7 w7 ho7 hg7 hl7 _ => ?_); have HO7 := Lib.hid ho7; have HG7 := Lib.hid (show w6.grownBy w7 (Value.slice A3 k c3).ownBlock from grown_after (w := w6) (o := .cells #[.int .i64 id, .int .i64 src, .int .i64 dst, .string typ, .slice B6 r6 cb6] 41) ⟨hg7.os, hg7.tape, hg7.output, hg7.size, hg7.block⟩); have HL7 := Lib.hid (show (Value.slice A3 k c3).ownBlock = some g7 ∨ g7 = w6.heap.size + 1 from hl7); have HC7 := Lib.hid ((HG7.out.block (z + 1) (by have := HSZ6.out; omega) (fun e => by have := HFW.out (z + 1) e.symm; omega)).trans HST6.out); have f7 : w7.frozen? ⟨z + 1, 1, none⟩ = false := Lib.frozen_of_heap HC7.out 1; have g7c : w7.cell? ⟨z + 1, 1, none⟩ = some (.slice A3 k c3) := Lib.cell_of_heap HC7.out 1; clear ho7 hg7 hl7) | (go_simp; go_at_call 33; (with_reducible refine hnd.out.mono ?_); rintro e w6 ⟨cc, n', rfl, hb6, hsrt, hno6⟩; have HN6 := Lib.hid hno6; obtain ⟨P6, rfl, B6, cb6, rfl, _, _⟩ := hno6; obtain ⟨r6, Hr6⟩ := name_itV n'.props.length; rw [Hr6.out] at HN6 ⊢; rw [hsrt.1, hsrt.2.1, hsrt.2.2.1, hsrt.2.2.2.1, Hxid.out, Hsrc.out, Hdst.out, Htyp.out] at HN6 ⊢; have HB6 := Lib.hid hb6; have HSRT := Lib.hid hsrt; have HSZ6 := Lib.hid (show z + 1 < w6.heap.size from by have h1 : w5.heap.size ≤ w6.heap.size := hb6.size; have := hzw5.out; omega); have HROW6 := Lib.hid ((Turn.of_below hb6).owns HROW.out (fun g hg h => by have := HFW.out g hg; have h2 : w5.heap.size ≤ g := h; omega)); have HST6 := Lib.hid ((hb6.block (z + 1) (by show z + 1 < w5.heap.size; exact hzw5.out)).trans HM5.out.box); have g6a : w6.cell? ⟨z + 1, 1, none⟩ = some (.slice A3 k c3) := Lib.cell_of_heap HST6.out 1; have g6b : (w6.alloc (.cells #[.int .i64 id, .int .i64 src, .int .i64 dst, .string typ, .slice B6 r6 cb6] 41)).cell? ⟨z + 1, 1, none⟩ = some (.slice A3 k c3) := (World.cell?_alloc_lt w6 _ _ (by show z + 1 < _; exact HSZ6.out)).trans g6a; have HONE := Lib.hid (show ∀ u ∈ ([.int .i64 id, .int .i64 src, .int .i64 dst, .string typ, .slice B6 r6 cb6] : List Value), u.oneCell' = true from fun u hu => by simp at hu; rcases hu with rfl | rfl | rfl | rfl | rfl <;> rfl); have NB := Lib.hid (heap_alloc_new w6 (.cells #[.int .i64 id, .int .i64 src, .int .i64 dst, .string typ, .slice B6 r6 cb6] 41)); have HS6 := Lib.hid (show (w6.alloc (.cells #[.int .i64 id, .int .i64 src, .int .i64 dst, .string typ, .slice B6 r6 cb6] 41)).heap.size = w6.heap.size + 1 by simp); clear hb6 hsrt))
          all_goals (
            have w1 : IntKind.i64.wrap ((k : Int) + 1) = (k : Int) + 1 := IntWalk.i64_in _ (by omega)
            go_wp2_with fail
            go_roundw)
          all_goals first
            | (case measure => simp [intOf]; omega)
            | (case rel =>
                refine ⟨k + 1, xs ++ [n'], .slice (some ⟨g7, 0, none⟩) (k + 1) c7, by omega, by go_num, Lib.hid ⟨?_, by rw [take_oneMore HX.out]; exact HALL.out.snoc HSRT.out, ?_⟩⟩
                rotate_left
                · exact LabS.far HLAB.out (fun g hg => own_in HM5.out.nodes hg) HLOC.out HB5.out (below_of_drew HB6.out) HG7.out (fun b hb => (HFW.out b hb).1) (Nat.lt_succ_self _)
                exact Pl2.more HM5.out HLEN.out HFW.out HREST.out.1 HREST.out.2 (below_of_drew HB6.out) HN6.out rfl HG7.out HL7.out HO7.out)
        · have hke : nE = k := by omega
          have HAE := Lib.hid (show All2 SrtE G.edges xs from by
            have h := HALL.out
            rw [List.take_of_length_le (by rw [HnE.out, hke]; exact Nat.le_refl _)] at h
            exact h)
          have hlen : xs.length = k := by rw [← HAE.out.1, HnE.out]; exact hke
          obtain ⟨A2E, c2E, hX⟩ := hM.out.own.form
          rw [hlen] at hX
          subst hX
          have HLE2 := Lib.hid hlen
          have hbx : wr.cell? ⟨z + 1, 0, none⟩ = some (.slice A1N k1 c1N) := Lib.cell_of_heap hM.out.box 0
          have hby : wr.cell? ⟨z + 1, 1, none⟩ = some (.slice A2E k c2E) := Lib.cell_of_heap hM.out.box 1
          have r0 : wr.cell? ⟨z, 0, none⟩ = some (.slice none 0 0) := Lib.cell_of_heap hM.out.res 0
          have r1 : wr.cell? ⟨z, 1, none⟩ = some (.slice none 0 0) := Lib.cell_of_heap hM.out.res 1
          have y0 : wr.frozen? ⟨z, 0, none⟩ = false := Lib.frozen_of_heap hM.out.res 0
          have y1 : wr.frozen? ⟨z, 1, none⟩ = false := Lib.frozen_of_heap hM.out.res 1
          clear hlen HALL
          subst hke
          go_upto_region 12 with fail
          go_wp2_with fail
          have h1 := heap_setCell_same _ z 1 _ _ (.slice A2E nE c2E) (heap_setCell_same _ z 0 _ _ (.slice A1N k1 c1N) hM.out.res)
          have ht := (((Turn.refl (fun b => b = z) wr).setCell (p := ⟨z, 0, none⟩) (.inr rfl) (.slice A1N k1 c1N)).setCell (p := ⟨z, 1, none⟩) (.inr rfl) (.slice A2E nE c2E))
          obtain ⟨W9, HW9⟩ := name_itV ((wr.setCell ⟨z, 0, none⟩ (.slice A1N k1 c1N)).setCell ⟨z, 1, none⟩ (.slice A2E nE c2E))
          rw [HW9.out] at h1 ht ⊢
          have k0 : W9.cell? ⟨z, 0, none⟩ = some (.slice A1N k1 c1N) := Lib.cell_of_heap h1 0
          have k1' : W9.cell? ⟨z, 1, none⟩ = some (.slice A2E nE c2E) := Lib.cell_of_heap h1 1
          have hloc := hM.out.loc
          have hpl : Below w.heap.size w W9 := by rw [HZ.out]; exact hM.out.below.trans (ht.below (fun i _ h => by omega) (by have := blk_lt hM.out.box; omega))
          have hgr : GrR W9 (fun b => w.heap.size ≤ b ∧ b < W9.heap.size) ⟨ns, xs⟩ (.agg #[.slice A1N k1 c1N, .slice A2E nE c2E]) := by
            refine ⟨_, _, rfl, ?_, ?_⟩
            · refine ((hM.out.nodes.turn NoR.good ht (fun b hb => by omega) (fun b hb => by omega)).rd NoR.good).mono NoR.good (fun b hb => ⟨by have := HZ.out; omega, by have := ht.size; omega⟩)
            · refine ((hM.out.own.turn EdR.good ht (fun b hb => hb.2) (fun b hb => by omega)).rd EdR.good).mono EdR.good (fun b hb => ⟨by have := HZ.out; omega, by have := ht.size; omega⟩)
          have hlabW : LabS W9 w.heap.size W9.heap.size (.slice A1N k1 c1N) k1 := (HLAB.out.turn ht (fun g hg => by have h1 := own_in hM.out.nodes hg; exact ⟨by omega, fun h => by omega⟩) (fun g h1 _ _ h2 => by omega)).low (by have := HZ.out; omega) (by have := ht.size; omega)
          have hownN : SOwn 38 3 NoR W9 (fun b => w.heap.size ≤ b ∧ b < W9.heap.size) ns (.slice A1N k1 c1N) := (hM.out.nodes.turn NoR.good ht (fun b hb => by omega) (fun b hb => by omega)).mono NoR.good (fun b hb => ⟨by have := HZ.out; omega, by have := ht.size; omega⟩)
          have hownE : SOwn 41 5 EdR W9 (fun b => w.heap.size ≤ b ∧ b < W9.heap.size) xs (.slice A2E nE c2E) := (hM.out.own.turn EdR.good ht (fun b hb => hb.2) (fun b hb => by omega)).mono EdR.good (fun b hb => ⟨by have := HZ.out; omega, by have := ht.size; omega⟩)
          rw [← HLX.out, ← HLE2.out] at *
          refine bodyPost_ret (v := .agg #[.slice A1N ns.length c1N, .slice A2E xs.length c2E]) (by simp [results, Tryz.results15, go_sem, k0, k1']) rfl ⟨A1N, c1N, A2E, c2E, ns, xs, rfl, hpl, hgr, HAL.out, HAE.out, hownN, hownE, hlabW⟩
end Go.Proofs.YtmhjbicbdahllaaGreatDoor

namespace Go.Proofs.YtmhjbicbdahllaaGreatDoor
open Go Go.RowKit

theorem copyVal_any (v : Val) (hs : sizeV v ≤ 2000000) (F : Nat → Prop) (u : Value) (w : World) (hF : ∀ g, F g → g < w.heap.size) (hv : VRd w F v u) :
    Calls Tryz.prog 52 #[u] w (CopdIs v w) := by
  obtain ⟨A, cap, rfl, _, hl⟩ := hv.inv
  have hz := sizeL_list v
  refine (copy_step v A cap w hF hl (fun w' h1 h2 => copy_any (sizeL v.list + 1) v.list (by omega) (by omega) F A _ cap w' h2 h1)).mono ?_
  rintro e w' ⟨s, rfl, hb, ho⟩
  obtain ⟨B, cb, rfl, hcb, hrd⟩ := ho.rd
  exact ⟨B, cb, rfl, hb, VRd.of_list hcb hrd⟩
/-- The pairs in a row of their own. -/
def CopyPIs (l : List PairD) (w : World) (e : Ending) (w' : World) : Prop :=
  ∃ s, e = .returned s ∧ Below w.heap.size w w' ∧ SOwn 57 7 PaR w' (fun b => w.heap.size ≤ b ∧ b < w'.heap.size) l s
/-- The texts in a row of their own. -/
def CopyTIs (l : List ByteArray) (w : World) (e : Ending) (w' : World) : Prop :=
  ∃ s, e = .returned s ∧ Below w.heap.size w w' ∧ SOwn 9 1 TxR w' (fun b => w.heap.size ≤ b ∧ b < w'.heap.size) l s
set_option maxRecDepth 100000 in
set_option maxHeartbeats 1000000 in
theorem copyT_any (l : List ByteArray) (F : Nat → Prop) (A : Option Addr) (n cap : Nat) (hn : n ≤ 10000000) (w : World) (hF : ∀ g, F g → g < w.heap.size) (hl : SRd 1 TxR w F l A n) :
    Calls Tryz.prog 23 #[.slice A n cap] w (CopyTIs l w) := by
  have hln := Lib.hid hl.1
  have HF := Lib.hid hF
  cases A with
  | none =>
    have h0 : l = [] := by
      rcases Nat.eq_zero_or_pos n with h | h
      · exact List.eq_nil_of_length_eq_zero (by rw [← hln.out, h])
      · obtain ⟨ad, e, _⟩ := hl.2 h
        cases e
    have hn0 : n = 0 := by rw [hln.out, h0]; rfl
    subst hn0
    have H0 := Lib.hid h0
    clear hl hF h0
    go_enter Tryz.func23, Tryz.ntmps23
    go_wp2_with fail
    go_ret
    rw [H0.out]
    exact ⟨.slice none 0 0, rfl, Below.refl _ _, SOwn.nil _ _ _ _ _⟩
  | some ad =>
    obtain ⟨cs, hcs⟩ := hl.fn
    have at_i : ∀ i, i < n → ∃ x, l[i]? = some x := fun i hi => ⟨l[i]'(by rw [← hln.out]; exact hi), List.getElem?_eq_getElem _⟩
    have h6 := Lib.hid (fun i (hi : i < n) => by obtain ⟨x, hx⟩ := at_i i hi; exact (show (cs i).size = 1 from (hcs i x hx).2.1))
    have h1 := Lib.hid (flat_one (n := n) (cs := cs) fun i hi => by obtain ⟨x, hx⟩ := at_i i hi; exact TxR.one (hcs i x hx).2.2.2)
    have hcell := Lib.hid (flat_cells (w := w) (ad := ad) h6.out (fun i hi j hj => by
      obtain ⟨x, hx⟩ := at_i i hi
      obtain ⟨g1, _, g3, _⟩ := hcs i x hx
      exact g3 j hj) (by decide))
    have HR := Lib.hid (fun i x hx => (hcs i x hx).2.2.2)
    clear hl hF hcs at_i
    obtain ⟨i0, hi, hz0, hz1, hz2⟩ := info_parts infoString
    have HNIL := Lib.hid (World.ownsRow_nil w w.heap.size 9 1)
    go_enter Tryz.func23, Tryz.ntmps23
    go_wp2_with (at_builtin; refine wpList_append_own _ rfl _ _ 35 rfl w.heap.size 9 i0 (.string ⟨#[]⟩) 1 16 Tryz.underlying35 hi hz0 hz1 hz2 rfl (by decide) (.slice none 0 0) 0 [] rfl HNIL.out ad n cap (flatC cs n) rfl (flatC_length h6.out) hcell.out h1.out (by unfold maxLen; omega) (by omega) (Nat.le_refl _) ?_; intro v' w1 hown hgrow hnil; have HO := Lib.hid hown; have HG := Lib.hid hgrow; clear hown hgrow hnil)
    go_ret
    have hown := HO.out
    have hgrow := HG.out
    simp only [Nat.zero_add, List.nil_append] at hown
    have HB : Below w.heap.size w w1 := (Below.refl _ w).grown hgrow (Nat.le_refl _) (by intro k hk; simp [Value.ownBlock] at hk)
    refine ⟨v', rfl, HB, cs, by rw [← hln.out]; exact own_base hown (Nat.zero_le _), fun i hi => h6.out i (by rw [hln.out]; exact hi), fun g hg => hown.lt g hg, fun i x hx => ?_⟩
    exact HR.out i x hx
set_option maxRecDepth 100000 in
set_option maxHeartbeats 4000000 in
theorem copyP_any (l : List PairD) (hfit : ∀ p, p ∈ l → FitP p) (hlen : l.length ≤ 2000000) (F : Nat → Prop) (A : Option Addr) (n cap : Nat) (w : World) (hF : ∀ g, F g → g < w.heap.size) (hl : SRd 7 PaR w F l A n) :
    Calls Tryz.prog 24 #[.slice A n cap] w (CopyPIs l w) := by
  have HL := Lib.hid hl
  have HF := Lib.hid hF
  have HFIT := Lib.hid hfit
  have hln := Lib.hid hl.1
  have hn2 : n ≤ 2000000 := by rw [hl.1]; exact hlen
  clear hl hF hfit
  go_enter Tryz.func24, Tryz.ntmps24
  go_wp2_with fail
  go_loopw [3, 4] (fun s3 s8 wr => ∃ k : Nat, k ≤ n ∧ s8 = .int .i64 (k : Nat) ∧ Hid (Below w.heap.size w wr) ∧ Hid (SOwn 57 7 PaR wr (fun b => w.heap.size ≤ b ∧ b < wr.heap.size) (l.take k) s3)) (fun _ s8 _ => n - (intOf s8).toNat)
  case atStart => exact ⟨0, by omega, rfl, Lib.hid (Below.refl _ _), Lib.hid (SOwn.nil ..)⟩
  case round =>
    obtain ⟨k, hk, rfl, hB, hO⟩ := hrel
    by_cases hlt : k < n
    · obtain ⟨x, hx⟩ : ∃ x, l[k]? = some x := ⟨l[k]'(by rw [← hln.out]; exact hlt), List.getElem?_eq_getElem _⟩
      have HX := Lib.hid hx
      have hfx := Lib.hid (HFIT.out x (List.mem_of_getElem? hx))
      have htl : (l.take k).length = k := by rw [List.length_take]; have := hln.out; omega
      obtain ⟨A3, c3, h3⟩ := hO.out.form
      rw [htl] at h3
      subst h3
      have HTL := Lib.hid htl
      obtain ⟨ad, s, rfl, hFa, hv, c0, c1, c2, c3', c4, c5, c6⟩ := pairsAt (HL.out.under PaR.good hB.out HF.out) hx
      obtain ⟨B, cb, hu, _, _⟩ := hv.inv
      injection hu with hu
      obtain rfl : s = .slice B x.v.list.length cb := by
        have := congrArg (fun a : Array Value => a[5]?) hu
        simpa [cellsV] using this
      have HV := Lib.hid hv
      clear hx hv hu htl
      obtain ⟨lx, Hlx⟩ := name_itV x.v.list.length
      rw [Hlx.out] at c6 HV
      obtain ⟨z, Hz⟩ := name_itV wr.heap.size
      obtain ⟨w5, HW5⟩ := name_itV wr
      have HB5 := Lib.hid (show Below wr.heap.size wr w5 from by rw [← HW5.out]; exact Below.refl _ _)
      have HS5 := Lib.hid (show w5.heap.size = z from by rw [← HW5.out, ← Hz.out])
      have HAD := Lib.hid (show ad.block < w5.heap.size from by rw [← HW5.out]; exact Nat.lt_of_lt_of_le (HF.out _ hFa) hB.out.size)
      have e1 : (0 : Int) ≤ k := by omega
      have e2 : (k : Int) < n := by omega
      go_upto_region 5 with fail
      rw [HW5.out]
      have hszw : w.heap.size ≤ wr.heap.size := hB.out.size
      have hcp := Lib.hid (copyVal_any x.v hfx.out.2 F _ w5.drew (fun g hg => Nat.lt_of_lt_of_le (HF.out g hg) (Nat.le_trans hszw HB5.out.size)) ((HV.out.under HB5.out (fun g hg => Nat.lt_of_lt_of_le (HF.out g hg) hszw)).drewN 1))
      unfold cellsV at hcp
      have HC0 := Lib.hid c0
      have d0 : w5.drew.cell? (ad.add (k * 7)) = some (.string x.key) := by rw [← HW5.out]; exact c0
      have d1 : w5.drew.cell? ⟨(ad.add (k * 7)).block, (ad.add (k * 7)).off + 1, none⟩ = some (.int .i64 x.v.kind) := by rw [← HW5.out]; exact c1
      have d2 : w5.drew.cell? ⟨(ad.add (k * 7)).block, (ad.add (k * 7)).off + 2, none⟩ = some (.bool x.v.truth) := by rw [← HW5.out]; exact c2
      have d3 : w5.drew.cell? ⟨(ad.add (k * 7)).block, (ad.add (k * 7)).off + 3, none⟩ = some (.int .i64 x.v.num) := by rw [← HW5.out]; exact c3'
      have d4 : w5.drew.cell? ⟨(ad.add (k * 7)).block, (ad.add (k * 7)).off + 4, none⟩ = some (.string x.v.text) := by rw [← HW5.out]; exact c4
      have d5 : w5.drew.cell? ⟨(ad.add (k * 7)).block, (ad.add (k * 7)).off + 5, none⟩ = some (.string x.v.extra) := by rw [← HW5.out]; exact c5
      have d6 : w5.drew.cell? ⟨(ad.add (k * 7)).block, (ad.add (k * 7)).off + 6, none⟩ = some (.slice B lx cb) := by rw [← HW5.out]; exact c6
      obtain ⟨cs, hrow, h7, hFw, hr⟩ := (hO.out.turn PaR.good (Turn.of_below HB5.out) (fun b hb => hb.2) (fun b hb h => by obtain ⟨_, h1⟩ := hb; omega))
      rw [HTL.out] at hrow h7
      have HROW := Lib.hid hrow
      have HREST := Lib.hid (And.intro h7 (And.intro hFw hr))
      clear c0 c1 c2 c3' c4 c5 c6 hrow h7 hFw hr hFa
      obtain ⟨i0, hi0, hz0a, hz1a, hz2a⟩ := info_parts infoPair
      go_region_law (first | (refine step_append_lies _ rfl _ _ 36 rfl 0 57 i0 (.agg #[.string ⟨#[]⟩, .int .i64 0, .bool false, .int .i64 0, .string ⟨#[]⟩, .string ⟨#[]⟩, .slice none 0 0]) 7 96 Tryz.underlying36 hi0 hz0a hz1a hz2a rfl (by decide) (.slice A3 k c3) k (flatC cs k) rfl (by exact HROW6.out.alloc _) ⟨w6.heap.size, 0, none⟩ 1 1 [.string x.key, .int .i64 x.v.kind, .bool x.v.truth, .int .i64 x.v.num, .string x.v.text, .string x.v.extra, .slice B6 lx cb6] rfl rfl (World.news_of_block (cs := #[.string x.key, .int .i64 x.v.kind, .bool x.v.truth, .int .i64 x.v.num, .string x.v.text, .string x.v.extra, .slice B6 lx cb6]) (by exact NB.out)) HONE.out (by omega) (by unfold maxLen; omega) (by omega) (Nat.zero_le _) (w6.heap.size + 1) (by exact HS6.out) (fun g7 c7 w7 ho7 hg7 hl7 _ => ?_); have HO7 := Lib.hid ho7; have HG7 := Lib.hid (show w6.grownBy w7 (Value.slice A3 k c3).ownBlock from grown_after (w := w6) (o := .cells #[.string x.key, .int .i64 x.v.kind, .bool x.v.truth, .int .i64 x.v.num, .string x.v.text, .string x.v.extra, .slice B6 lx cb6] 57) ⟨hg7.os, hg7.tape, hg7.output, hg7.size, hg7.block⟩); have HL7 := Lib.hid (show (Value.slice A3 k c3).ownBlock = some g7 ∨ g7 = w6.heap.size + 1 from hl7); clear ho7 hg7 hl7) | (go_simp; go_at_call 52; (with_reducible refine hcp.out.mono ?_); rintro e w6 ⟨B6, cb6, rfl, hb6, hv6⟩; rw [Hlx.out] at hv6; unfold cellsV; rw [Hlx.out]; have HB6 := Lib.hid hb6; have HV6 := Lib.hid hv6; have HROW6 := Lib.hid ((Turn.of_below hb6).owns HROW.out (fun g hg h => by have := HREST.out.2.1 g hg; have h2 : w5.heap.size ≤ g := h; have := HB5.out.size; omega)); have d0b : w6.cell? (ad.add (k * 7)) = some (.string x.key) := (hb6.cell (p := ad.add (k * 7)) (by rw [block_of_add]; exact HAD.out)).trans (by rw [← HW5.out]; exact HC0.out); have HONE := Lib.hid (show ∀ u ∈ ([.string x.key, .int .i64 x.v.kind, .bool x.v.truth, .int .i64 x.v.num, .string x.v.text, .string x.v.extra, .slice B6 lx cb6] : List Value), u.oneCell' = true from fun u hu => by simp at hu; rcases hu with rfl | rfl | rfl | rfl | rfl | rfl | rfl <;> rfl); have NB := Lib.hid (heap_alloc_new w6 (.cells #[.string x.key, .int .i64 x.v.kind, .bool x.v.truth, .int .i64 x.v.num, .string x.v.text, .string x.v.extra, .slice B6 lx cb6] 57)); have HS6 := Lib.hid (show (w6.alloc (.cells #[.string x.key, .int .i64 x.v.kind, .bool x.v.truth, .int .i64 x.v.num, .string x.v.text, .string x.v.extra, .slice B6 lx cb6] 57)).heap.size = w6.heap.size + 1 by simp); clear hb6 hv6))
      all_goals (
        have w1 : IntKind.i64.wrap ((k : Int) + 1) = (k : Int) + 1 := IntWalk.i64_in _ (by omega)
        go_wp2_with fail
        go_roundw)
      all_goals first
        | (case measure => simp [intOf]; omega)
        | (case rel =>
            obtain ⟨h7, hFw, hr⟩ := HREST.out
            have hs6 : w5.heap.size ≤ w6.heap.size := HB6.out.size
            have hs7 : w6.heap.size ≤ w7.heap.size := HG7.out.size
            have hsz5 := HS5.out
            have hz := Hz.out
            have ho7 := HO7.out
            have hg7 : g7 < w7.heap.size := (ho7.lt g7 rfl).2
            have hsn := own_more (w5 := w6) (w6 := w7) (R := PaR) (E := 57) (sz := 7) (F := fun b => w.heap.size ≤ b ∧ b < wr.heap.size) (G := fun b => w5.heap.size ≤ b ∧ b < w6.heap.size) (l := l.take k) (x := x) (s := .slice A3 k c3) (c := cellsP x (.slice B6 x.v.list.length cb6)) (g4 := g7) (c4 := c7) (cs := cs) PaR.good
              (fun i hi => h7 i (by rw [HTL.out] at hi; exact hi)) (fun i y hy => PaR.good.keep (hr i y hy) (fun p hp => HB6.out.cell (show p.block < w5.heap.size from by have := hp.1.2; omega)))
              ⟨_, rfl, by rw [Hlx.out]; exact HV6.out⟩ rfl (fun b hb e => by have := (hFw b e).2; have := hb.1; omega) (fun b hb => by have := hb.2; omega) (fun b hb => hb.2) (by
                rw [HTL.out]
                unfold cellsP
                rw [Hlx.out]
                exact ho7) HG7.out (by rcases HL7.out with e | e; exact .inl e; exact .inr (by omega))
            rw [HTL.out] at hsn
            refine ⟨k + 1, by omega, by go_num, Lib.hid ?_, Lib.hid ?_⟩
            · exact ((hB.out.trans (HB5.out.mono (by omega))).trans ((below_of_drew HB6.out).mono (show w.heap.size ≤ w5.heap.size from by omega))).trans ((Turn.of_grown HG7.out).below (fun b _ hb => (hFw b hb.symm).1) (by omega))
            · rw [take_oneMore HX.out]
              refine hsn.mono PaR.good (fun b hb => ?_)
              rcases hb with hb | hb | hb
              · exact ⟨hb.1, by have := hb.2; omega⟩
              · exact ⟨by have := hb.1; omega, by have := hb.2; omega⟩
              · subst hb
                refine ⟨?_, hg7⟩
                rcases HL7.out with h | h
                · exact (hFw b h).1
                · omega)
    · have hke : k = n := by omega
      subst hke
      have htk := Lib.hid (show l.take k = l from List.take_of_length_le (by rw [hln.out]; exact Nat.le_refl _))
      obtain ⟨A3, c3, h3⟩ := hO.out.form
      rw [htk.out] at hO h3
      subst h3
      obtain ⟨cs, hrow, h7, hFw, hrr⟩ := hO.out
      go_wp2_with fail
      go_ret
      exact ⟨_, rfl, hB.out, hO.out⟩
end Go.Proofs.YtmhjbicbdahllaaGreatDoor

namespace Go.Proofs.YtmhjbicbdahllaaGreatDoor
open Go Go.RowKit

/-- Values laid side by side. -/
def setL : List Value → Nat → List Value → List Value
  | xs, _, [] => xs
  | xs, o, v :: r => setL (xs.set o v) (o + 1) r
def setW : World → Nat → Nat → List Value → World
  | w, _, _, [] => w
  | w, g, o, v :: r => setW (w.setCell ⟨g, o, none⟩ v) g (o + 1) r
theorem own_setW {base E sz g n cp : Nat} (vs : List Value) : ∀ {w : World} {o : Nat} {xs : List Value}, w.ownsRow base E sz (.slice (some ⟨g, 0, none⟩) n cp) n xs →
    (setW w g o vs).ownsRow base E sz (.slice (some ⟨g, 0, none⟩) n cp) n (setL xs o vs) := by
  induction vs with
  | nil => intro w o xs h; exact h
  | cons v r ih => intro w o xs h; exact ih (h.stored o v).1
theorem turn_setW {g : Nat} (vs : List Value) : ∀ {w : World} {o : Nat}, Turn (fun b => b = g) w (setW w g o vs) := by
  induction vs with
  | nil => intro w o; exact Turn.refl _ _
  | cons v r ih =>
    intro w o
    exact ((Turn.refl (fun b => b = g) w).setCell (p := ⟨g, o, none⟩) (.inr rfl) v).trans ih
theorem size_setW {g : Nat} (vs : List Value) : ∀ {w : World} {o : Nat}, (setW w g o vs).heap.size = w.heap.size := by
  induction vs with
  | nil => intro w o; rfl
  | cons v r ih => intro w o; exact ih.trans (by simp)
theorem setL_length (vs : List Value) : ∀ (xs : List Value) (o : Nat), (setL xs o vs).length = xs.length := by
  induction vs with
  | nil => intro xs o; rfl
  | cons v r ih => intro xs o; exact (ih _ _).trans (by simp)
theorem setL_at (vs : List Value) : ∀ (xs : List Value) (o p : Nat), o + vs.length ≤ xs.length → (setL xs o vs)[p]? = if o ≤ p ∧ p < o + vs.length then vs[p - o]? else xs[p]? := by
  induction vs with
  | nil => intro xs o p _; simp only [setL, List.length_nil, Nat.add_zero]; rw [if_neg (by omega)]
  | cons v r ih =>
    intro xs o p h
    simp only [List.length_cons] at h
    have h1 := ih (xs.set o v) (o + 1) p (by simp; omega)
    show (setL (xs.set o v) (o + 1) r)[p]? = _
    rw [h1]
    simp only [List.length_cons]
    by_cases hp : o = p
    · subst hp
      rw [if_neg (by omega), if_pos (by omega), List.getElem?_set_self (by omega), Nat.sub_self]
      rfl
    · rw [List.getElem?_set_ne hp]
      by_cases hq : o + 1 ≤ p ∧ p < o + 1 + r.length
      · rw [if_pos hq, if_pos (by omega), show p - o = (p - (o + 1)) + 1 by omega, List.getElem?_cons_succ]
      · rw [if_neg hq, if_neg (by omega)]
/-- One element turned. -/
theorem setL_flat {cs : Nat → Array Value} {c : Array Value} {n k sz : Nat} (h : ∀ i, i < n → (cs i).size = sz) (hc : c.size = sz) (hk : k < n) :
    setL (flatC cs n) (k * sz) c.toList = flatC (fun i => if i = k then c else cs i) n := by
  have h2 : ∀ i, i < n → ((fun i => if i = k then c else cs i) i).size = sz := fun i hi => by
    by_cases e : i = k
    · simp only [if_pos e]; exact hc
    · simp only [if_neg e]; exact h i hi
  have hl := flatC_length h
  have hl2 := flatC_length h2
  have hks : (k + 1) * sz ≤ n * sz := Nat.mul_le_mul_right sz (by omega)
  rw [Nat.succ_mul] at hks
  apply List.ext_getElem?
  intro p
  rcases Nat.lt_or_ge p (n * sz) with hp | hp
  · have hsz : 0 < sz := by
      rcases Nat.eq_zero_or_pos sz with h0 | h0
      · rw [h0, Nat.mul_zero] at hp; omega
      · exact h0
    have hpi : p / sz < n := (Nat.div_lt_iff_lt_mul hsz).2 hp
    have hpj : p % sz < sz := Nat.mod_lt _ hsz
    have hpe : p = p / sz * sz + p % sz := by rw [Nat.mul_comm]; exact (Nat.div_add_mod p sz).symm
    rw [setL_at _ _ _ _ (by rw [hl, Array.length_toList, hc]; omega), Array.length_toList, hc]
    have e2 := flatC_at h2 hpi hpj
    have e1 := flatC_at h hpi hpj
    rw [← hpe] at e1 e2
    rw [e1, e2]
    by_cases e : p / sz = k
    · simp only [if_pos e]
      rw [e] at hpe
      rw [if_pos (by omega), Array.getElem?_toList, show p - k * sz = p % sz by omega]
    · simp only [if_neg e]
      rw [if_neg]
      intro ⟨ha, hb⟩
      apply e
      have h3 : k ≤ p / sz := (Nat.le_div_iff_mul_le hsz).2 ha
      have h4 : p / sz < k + 1 := (Nat.div_lt_iff_lt_mul hsz).2 (by rw [Nat.succ_mul]; exact hb)
      omega
  · rw [List.getElem?_eq_none (by rw [setL_length, hl]; omega), List.getElem?_eq_none (by rw [hl2]; omega)]
theorem own_elem {base E sz g n cp k : Nat} {w : World} {cs : Nat → Array Value} {c : Array Value} (h : w.ownsRow base E sz (.slice (some ⟨g, 0, none⟩) n cp) n (flatC cs n)) (hs : ∀ i, i < n → (cs i).size = sz) (hc : c.size = sz) (hk : k < n) :
    (setW w g (k * sz) c.toList).ownsRow base E sz (.slice (some ⟨g, 0, none⟩) n cp) n (flatC (fun i => if i = k then c else cs i) n) := by
  have := own_setW (o := k * sz) c.toList h
  rwa [setL_flat hs hc hk] at this

/-- Two neighbours in the other order. -/
def swapF {β : Type} (f : Nat → β) (k : Nat) : Nat → β := fun i => if i = k then f (k - 1) else if i = k - 1 then f k else f i
theorem own_swap {base E sz g n cp k : Nat} {w : World} {cs : Nat → Array Value} (h : w.ownsRow base E sz (.slice (some ⟨g, 0, none⟩) n cp) n (flatC cs n)) (hs : ∀ i, i < n → (cs i).size = sz) (hk : k < n) (h0 : 0 < k) :
    (setW (setW w g (k * sz) (cs (k - 1)).toList) g ((k - 1) * sz) (cs k).toList).ownsRow base E sz (.slice (some ⟨g, 0, none⟩) n cp) n (flatC (swapF cs k) n) := by
  have h1 := own_elem h hs (hs (k - 1) (by omega)) hk
  have h2 : ∀ i, i < n → ((fun i => if i = k then cs (k - 1) else cs i) i).size = sz := fun i hi => by
    by_cases e : i = k
    · simp only [if_pos e]; exact hs _ (by omega)
    · simp only [if_neg e]; exact hs i hi
  have h3 := own_elem h1 h2 (hs k hk) (show k - 1 < n by omega)
  refine (congrArg (fun l => World.ownsRow _ base E sz (.slice (some ⟨g, 0, none⟩) n cp) n l) (flatC_congr fun i hi => ?_)).mp h3
  unfold swapF
  by_cases e : i = k - 1
  · rw [if_pos e, if_neg (by omega), if_pos e]
  · rw [if_neg e]
    by_cases e2 : i = k
    · rw [if_pos e2, if_pos e2]
    · rw [if_neg e2, if_neg e2, if_neg e]
theorem swap_size {cs : Nat → Array Value} {n k sz : Nat} (hs : ∀ i, i < n → (cs i).size = sz) (hk : k < n) (h0 : 0 < k) : ∀ i, i < n → (swapF cs k i).size = sz := fun i hi => by
  unfold swapF
  split
  · exact hs _ (by omega)
  · split
    · exact hs _ hk
    · exact hs _ hi

/-- A list with two neighbours in the other order. -/
def swapA {α : Type} (l : List α) (k : Nat) (x y : α) : List α := (l.set k y).set (k - 1) x
theorem swapA_length {α : Type} (l : List α) (k : Nat) (x y : α) : (swapA l k x y).length = l.length := by simp [swapA]
theorem swapA_at {α : Type} {l : List α} {k : Nat} {x y : α} (hx : l[k]? = some x) (hy : l[k - 1]? = some y) (h0 : 0 < k) (i : Nat) : (swapA l k x y)[i]? = if i = k then l[k - 1]? else if i = k - 1 then l[k]? else l[i]? := by
  unfold swapA
  have hk := idx_lt hx
  by_cases e : i = k - 1
  · subst e
    rw [List.getElem?_set_self (by simp; omega), if_neg (by omega), if_pos rfl, hx]
  · rw [List.getElem?_set_ne (fun h => e h.symm)]
    by_cases e2 : i = k
    · subst e2
      rw [List.getElem?_set_self hk, if_pos rfl, hy]
    · rw [List.getElem?_set_ne (fun h => e2 h.symm), if_neg e2, if_neg e]
theorem swapA_perm {α : Type} {x y : α} : ∀ (k : Nat) (l : List α), 0 < k → l[k]? = some x → l[k - 1]? = some y → (swapA l k x y).Perm l := by
  intro k
  induction k with
  | zero => intro l h; omega
  | succ k ih =>
    intro l _ hx hy
    cases l with
    | nil => simp at hx
    | cons a r =>
      cases k with
      | zero =>
        simp only [Nat.zero_add, Nat.sub_self, List.getElem?_cons_zero, Option.some.injEq] at hy
        subst hy
        cases r with
        | nil => simp at hx
        | cons b r =>
          simp at hx
          subst hx
          exact List.Perm.swap ..
      | succ k =>
        have h1 := ih r (by omega) (by simpa using hx) (by simpa using hy)
        have e : swapA (a :: r) (k + 1 + 1) x y = a :: swapA r (k + 1) x y := by
          simp [swapA]
        rw [e]
        exact h1.cons a

/-- Sorting by neighbours: the first i elements are sorted. -/
structure SrtM {α : Type} (le : α → α → Prop) (l : List α) (i : Nat) (c : List α) : Prop where
  perm : c.Perm l
  rest : ∀ j, i ≤ j → c[j]? = l[j]?
  srt : ∀ p q x y, p < q → q < i → c[p]? = some x → c[q]? = some y → le x y
/-- .. the element at k goes down. -/
structure InsM {α : Type} (le : α → α → Prop) (l : List α) (i k : Nat) (c : List α) : Prop where
  perm : c.Perm l
  rest : ∀ j, i < j → c[j]? = l[j]?
  srt : ∀ p q x y, p < q → q ≤ i → p ≠ k → q ≠ k → c[p]? = some x → c[q]? = some y → le x y
  beh : ∀ q x y, k < q → q ≤ i → c[k]? = some x → c[q]? = some y → le x y
section
variable {α : Type} {le : α → α → Prop} {l c : List α} {i k : Nat}
theorem SrtM.zero : SrtM le l 0 l := ⟨List.Perm.refl _, fun _ _ => rfl, fun _ _ _ _ _ h => absurd h (Nat.not_lt_zero _)⟩
theorem SrtM.one : SrtM le l 1 l := ⟨List.Perm.refl _, fun _ _ => rfl, fun _ _ _ _ h h2 => by omega⟩
theorem SrtM.ins (h : SrtM le l i c) : InsM le l i i c := ⟨h.perm, fun j hj => h.rest j (by omega), fun p q x y h1 h2 _ h3 => h.srt p q x y h1 (by omega), fun q x y h1 h2 => by omega⟩
theorem InsM.low (h : InsM le l i 0 c) : SrtM le l (i + 1) c := by
  refine ⟨h.perm, fun j hj => h.rest j (by omega), fun p q x y h1 h2 hx hy => ?_⟩
  by_cases hp : p = 0
  · subst hp; exact h.beh q x y h1 (by omega) hx hy
  · exact h.srt p q x y h1 (by omega) hp (by omega) hx hy
theorem InsM.stop (h : InsM le l i k c) (tr : ∀ a b d, le a b → le b d → le a d) {x y : α} (hk0 : 0 < k) (hki : k ≤ i) (hx : c[k]? = some x) (hy : c[k - 1]? = some y) (hle : le y x) : SrtM le l (i + 1) c := by
  refine ⟨h.perm, fun j hj => h.rest j (by omega), fun p q a b h1 h2 ha hb => ?_⟩
  by_cases hp : p = k
  · subst hp; exact h.beh q a b h1 (by omega) ha hb
  · by_cases hq : q = k
    · subst hq
      rw [hx] at hb
      injection hb with hb
      subst hb
      by_cases hpk : p = q - 1
      · subst hpk
        rw [hy] at ha
        injection ha with ha
        subst ha
        exact hle
      · exact tr _ _ _ (h.srt p (q - 1) a y (by omega) (by omega) hp (by omega) ha hy) hle
    · exact h.srt p q a b h1 (by omega) hp hq ha hb
theorem InsM.step (h : InsM le l i k c) {x y : α} (hk0 : 0 < k) (hki : k ≤ i) (hx : c[k]? = some x) (hy : c[k - 1]? = some y) (hle : le x y) : InsM le l i (k - 1) (swapA c k x y) := by
  have hat := fun j => swapA_at hx hy hk0 j
  refine ⟨(swapA_perm k c hk0 hx hy).trans h.perm, fun j hj => ?_, fun p q a b h1 h2 hp hq ha hb => ?_, fun q a b h1 h2 ha hb => ?_⟩
  · rw [hat, ← h.rest j hj]
    rw [if_neg (by omega), if_neg (by omega)]
  · rw [hat] at ha hb
    rw [if_neg hp] at ha
    rw [if_neg hq] at hb
    by_cases hpk : p = k
    · rw [if_pos hpk] at ha
      rw [if_neg (by omega)] at hb
      exact h.srt (k - 1) q a b (by omega) h2 (by omega) (by omega) ha hb
    · rw [if_neg hpk] at ha
      by_cases hqk : q = k
      · rw [if_pos hqk] at hb
        exact h.srt p (k - 1) a b (by omega) (by omega) hpk (by omega) ha hb
      · rw [if_neg hqk] at hb
        exact h.srt p q a b h1 h2 hpk hqk ha hb
  · rw [hat] at ha hb
    rw [if_neg (by omega), if_pos rfl] at ha
    rw [hx] at ha
    injection ha with ha
    subst ha
    by_cases hqk : q = k
    · rw [if_pos hqk, hy] at hb
      injection hb with hb
      subst hb
      exact hle
    · rw [if_neg hqk, if_neg (by omega)] at hb
      exact h.beh q _ b (by omega) h2 hx hb
theorem SrtM.done {n : Nat} (h : SrtM le l n c) (hn : l.length ≤ n) : c.Perm l ∧ c.Pairwise le := by
  refine ⟨h.perm, List.pairwise_iff_getElem.2 fun p q hp hq hpq => ?_⟩
  exact h.srt p q _ _ hpq (by rw [h.perm.length_eq] at hq; omega) (List.getElem?_eq_getElem hp) (List.getElem?_eq_getElem hq)
end

/-- A relation that bears what turns elsewhere. -/
structure Lies.GoodT {α : Type} (R : Lies α) : Prop where
  turn : ∀ {S : Nat → Prop} {w w' : World} {F : Nat → Prop} {x : α} {c : Array Value}, R w F x c → Turn S w w' → (∀ b, F b → b < w.heap.size) → (∀ b, F b → ¬ S b) → R w' F x c
  mono : ∀ {w : World} {F F' : Nat → Prop} {x : α} {c : Array Value}, R w F x c → (∀ g, F g → F' g) → R w F' x c
theorem Lies.Good.t {α : Type} {R : Lies α} (h : R.Good) : R.GoodT := ⟨fun hx ht hl hS => h.keep hx fun _ hp => ht.cell (hl _ hp) (hS _ hp), h.mono⟩
/-- A row of one's own, its elements' lists in blocks of their own, one behind the other. -/
structure IntS {α : Type} (E sz : Nat) (R : Lies α) (w : World) (lo hi : Nat) (l : List α) (A : Option Addr) (n cp : Nat) (cs : Nat → Array Value) (a : Nat → Nat) : Prop where
  row : w.ownsRow 0 E sz (.slice A n cp) n (flatC cs n)
  len : l.length = n
  sz : ∀ i, i < n → (cs i).size = sz
  own : ∀ g, (Value.slice A n cp).ownBlock = some g → lo ≤ g ∧ g < hi
  up : ∀ i j, i ≤ j → a i ≤ a j
  lo_ : lo ≤ a 0
  hi_ : a n ≤ hi
  top : hi ≤ w.heap.size
  el : ∀ i x, l[i]? = some x → R w (fun b => a i ≤ b ∧ b < a (i + 1) ∧ (Value.slice A n cp).ownBlock ≠ some b) x (cs i)
def SInt {α : Type} (E sz : Nat) (R : Lies α) (w : World) (lo hi : Nat) (l : List α) (s : Value) : Prop := ∃ A cp cs a, s = .slice A l.length cp ∧ IntS E sz R w lo hi l A l.length cp cs a
section
variable {α : Type} {R : Lies α} {E sz lo hi n cp : Nat} {w w' : World} {l : List α} {A : Option Addr} {cs : Nat → Array Value} {a : Nat → Nat} {s : Value}
theorem IntS.turn {S : Nat → Prop} (hR : R.GoodT) (h : IntS E sz R w lo hi l A n cp cs a) (ht : Turn S w w') (hS : ∀ b, lo ≤ b → b < hi → ¬ S b) : IntS E sz R w' lo hi l A n cp cs a := by
  refine ⟨ht.owns h.row (fun g hg => hS g (h.own g hg).1 (h.own g hg).2), h.len, h.sz, h.own, h.up, h.lo_, h.hi_, Nat.le_trans h.top ht.size, fun i x hx => hR.turn (h.el i x hx) ht (fun b hb => ?_) (fun b hb => ?_)⟩
  · have hi2 := idx_lt hx
    have := h.up (i + 1) n (by have := h.len; omega)
    have := h.hi_; have := h.top; omega
  · have hi2 := idx_lt hx
    have := h.up (i + 1) n (by have := h.len; omega)
    have := h.up 0 i (by omega)
    have := h.hi_; have := h.lo_
    exact hS b (by omega) (by omega)
theorem IntS.wide {hi' : Nat} (h : IntS E sz R w lo hi l A n cp cs a) (hh : hi ≤ hi') (ht : hi' ≤ w.heap.size) : IntS E sz R w lo hi' l A n cp cs a :=
  ⟨h.row, h.len, h.sz, fun g hg => ⟨(h.own g hg).1, Nat.lt_of_lt_of_le (h.own g hg).2 hh⟩, h.up, h.lo_, Nat.le_trans h.hi_ hh, ht, h.el⟩
theorem SInt.turn {S : Nat → Prop} (hR : R.GoodT) (h : SInt E sz R w lo hi l s) (ht : Turn S w w') (hS : ∀ b, lo ≤ b → b < hi → ¬ S b) : SInt E sz R w' lo hi l s := by
  obtain ⟨A, cp, cs, a, e, h⟩ := h
  exact ⟨A, cp, cs, a, e, h.turn hR ht hS⟩
theorem SInt.wide {hi' : Nat} (h : SInt E sz R w lo hi l s) (hh : hi ≤ hi') (ht : hi' ≤ w.heap.size) : SInt E sz R w lo hi' l s := by
  obtain ⟨A, cp, cs, a, e, h⟩ := h
  exact ⟨A, cp, cs, a, e, h.wide hh ht⟩
theorem SInt.low {lo' : Nat} (h : SInt E sz R w lo hi l s) (hl : lo' ≤ lo) : SInt E sz R w lo' hi l s := by
  obtain ⟨A, cp, cs, a, e, h⟩ := h
  exact ⟨A, cp, cs, a, e, h.row, h.len, h.sz, fun g hg => ⟨Nat.le_trans hl (h.own g hg).1, (h.own g hg).2⟩, h.up, Nat.le_trans hl h.lo_, h.hi_, h.top, h.el⟩
theorem SInt.nil (hlo : lo ≤ hi) (ht : hi ≤ w.heap.size) : SInt E sz R w lo hi [] (.slice none 0 0) :=
  ⟨none, 0, fun _ => #[], fun _ => lo, rfl, World.ownsRow_nil .., rfl, (fun _ h => absurd h (Nat.not_lt_zero _)), (fun g hg => by cases hg), fun _ _ _ => Nat.le_refl _, Nat.le_refl _, hlo, ht, fun i x hx => by simp at hx⟩
theorem SInt.sown (hR : R.GoodT) (h : SInt E sz R w lo hi l s) : SOwn E sz R w (fun b => lo ≤ b ∧ b < hi) l s := by
  obtain ⟨A, cp, cs, a, rfl, h⟩ := h
  refine ⟨cs, h.row, h.sz, h.own, fun i x hx => hR.mono (h.el i x hx) fun b hb => ?_⟩
  have hi2 := idx_lt hx
  have := h.up (i + 1) l.length (by omega)
  have := h.up 0 i (by omega)
  have := h.hi_; have := h.lo_
  exact ⟨⟨by omega, by omega⟩, hb.2.2⟩
/-- One element more, the slice stored into a cell of another block. -/
theorem IntS.put {q j k : Nat} {w5 w6 w7 : World} {x : α} {c : Array Value} {g7 c7 : Nat} {v : Value} (hR : R.GoodT) (hq : q < lo) (h : IntS E sz R w5 lo w5.heap.size l A k cp cs a)
    (hb6 : Below w5.heap.size w5 w6) (hno : R w6 (fun b => w5.heap.size ≤ b ∧ b < w6.heap.size) x c) (hc : c.size = sz) (hg : w6.grownBy w7 (Value.slice A k cp).ownBlock) (hl : (Value.slice A k cp).ownBlock = some g7 ∨ w6.heap.size ≤ g7)
    (ho : w7.ownsRow 0 E sz (.slice (some ⟨g7, 0, none⟩) (k + 1) c7) (k + 1) (flatC cs k ++ c.toList)) :
    SInt E sz R (w7.setCell ⟨q, j, none⟩ v) lo (w7.setCell ⟨q, j, none⟩ v).heap.size (l ++ [x]) (.slice (some ⟨g7, 0, none⟩) (k + 1) c7) ∧ Turn (fun b => some b = (Value.slice A k cp).ownBlock ∨ b = q) w6 (w7.setCell ⟨q, j, none⟩ v) := by
  have hs6 : w5.heap.size ≤ w6.heap.size := hb6.size
  have hs7 : w6.heap.size ≤ w7.heap.size := hg.size
  have hg7 : g7 < w7.heap.size := (ho.lt g7 rfl).2
  have hlen := h.len
  have hgl : lo ≤ g7 := by
    rcases hl with e | e
    · exact (h.own g7 e).1
    · have := h.lo_; have := h.up 0 k (by omega); have := h.hi_; omega
  have hT : Turn (fun b => some b = (Value.slice A k cp).ownBlock ∨ b = q) w6 (w7.setCell ⟨q, j, none⟩ v) :=
    ((Turn.of_grown hg).mono (fun b _ hb => .inl hb)).trans (((Turn.refl (fun b => b = q) w7).setCell (p := ⟨q, j, none⟩) (.inr rfl) v).mono (fun b _ hb => .inr hb))
  have hs8 : (w7.setCell ⟨q, j, none⟩ v).heap.size = w7.heap.size := by simp
  refine ⟨⟨some ⟨g7, 0, none⟩, c7, fun i => if i = k then c else cs i, fun i => if i ≤ k then a i else w7.heap.size, by simp [hlen], ?_⟩, hT⟩
  have hl1 : (l ++ [x]).length = k + 1 := by simp [hlen]
  rw [hl1]
  refine ⟨?_, hl1, fun i hi => ?_, fun g hg2 => ?_, fun i j hij => ?_, ?_, ?_, Nat.le_refl _, fun i y hy => ?_⟩
  · rw [flatC_succ, flatC_congr (ds := cs) (fun i hi => if_neg (by omega)), if_pos rfl]
    exact ((Turn.refl (fun b => b = q) w7).setCell (p := ⟨q, j, none⟩) (.inr rfl) v).owns ho (fun g hg e => by have hg : g7 = g := by injection hg
                                                                                                               omega)
  · show (if i = k then c else cs i).size = sz
    by_cases e : i = k
    · rw [if_pos e]; exact hc
    · rw [if_neg e]; exact h.sz i (by omega)
  · have hg2 : g7 = g := by injection hg2
    omega
  · show (if i ≤ k then a i else w7.heap.size) ≤ (if j ≤ k then a j else w7.heap.size)
    by_cases e2 : j ≤ k
    · rw [if_pos e2, if_pos (by omega)]; exact h.up i j hij
    · rw [if_neg e2]
      by_cases e1 : i ≤ k
      · rw [if_pos e1]; have := h.up i k e1; have := h.hi_; omega
      · rw [if_neg e1]; exact Nat.le_refl _
  · show lo ≤ if 0 ≤ k then a 0 else w7.heap.size
    rw [if_pos (Nat.zero_le _)]; exact h.lo_
  · show (if k + 1 ≤ k then a (k + 1) else w7.heap.size) ≤ _
    rw [if_neg (by omega), hs8]; exact Nat.le_refl _
  · have hi2 := idx_lt hy
    rw [hl1] at hi2
    by_cases e : i = k
    · subst e
      have hxy : y = x := by
        rw [List.getElem?_append_right (by omega), hlen, Nat.sub_self] at hy
        simpa using hy.symm
      subst hxy
      show R _ (fun b => (if i ≤ i then a i else w7.heap.size) ≤ b ∧ b < (if i + 1 ≤ i then a (i + 1) else w7.heap.size) ∧ _) y (if i = i then c else cs i)
      rw [if_pos rfl, if_pos (Nat.le_refl _), if_neg (by omega)]
      refine hR.mono (hR.turn hno hT (fun b hb => hb.2) (fun b hb e2 => ?_)) fun b hb => ⟨?_, by omega, fun e2 => ?_⟩
      · rcases e2 with e2 | e2
        · have := (h.own b e2.symm).2; omega
        · have := h.lo_; have := h.up 0 i (by omega); have := h.hi_; omega
      · have := h.hi_; omega
      · have e2 : g7 = b := by injection e2
        rcases hl with e3 | e3
        · have := (h.own g7 e3).2; omega
        · omega
    · have hik : i < k := by omega
      rw [List.getElem?_append_left (by omega)] at hy
      show R _ (fun b => (if i ≤ k then a i else w7.heap.size) ≤ b ∧ b < (if i + 1 ≤ k then a (i + 1) else w7.heap.size) ∧ _) y (if i = k then c else cs i)
      rw [if_neg e, if_pos (show i ≤ k by omega), if_pos (show i + 1 ≤ k by omega)]
      have h1 := h.el i y hy
      have hup := h.up (i + 1) k (by omega)
      have hlo := h.up 0 i (by omega)
      have hhi := h.hi_
      have hlo2 := h.lo_
      have h6 := hR.turn h1 (Turn.of_below hb6) (fun b hb => by omega) (fun b hb e2 => by omega)
      refine hR.mono (hR.turn h6 hT (fun b hb => by omega) (fun b hb e2 => ?_)) fun b hb => ⟨hb.1, hb.2.1, fun e2 => ?_⟩
      · rcases e2 with e2 | e2
        · exact hb.2.2 e2.symm
        · omega
      · have e2 : g7 = b := by injection e2
        rcases hl with e3 | e3
        · exact hb.2.2 (by rw [e3, e2])
        · omega
end

/-- A node with labels and properties in rows of their own; an edge. -/
def NoO : Lies NodeD := fun w F n c => ∃ L P m, c = #[.int .i64 n.id, L, P] ∧ SOwn 9 1 TxR w (fun b => F b ∧ b < m) n.labels L ∧ SOwn 57 7 PaR w (fun b => F b ∧ m ≤ b) n.props P
theorem NoO.good : NoO.GoodT :=
  ⟨fun ⟨L, P, m, e, h1, h2⟩ ht hl hS => ⟨L, P, m, e, h1.turn TxR.good ht (fun b hb => hl b hb.1) (fun b hb => hS b hb.1), h2.turn PaR.good ht (fun b hb => hl b hb.1) (fun b hb => hS b hb.1)⟩,
   fun ⟨L, P, m, e, h1, h2⟩ hF => ⟨L, P, m, e, h1.mono TxR.good (fun b hb => ⟨hF b hb.1, hb.2⟩), h2.mono PaR.good (fun b hb => ⟨hF b hb.1, hb.2⟩)⟩⟩
def EdO : Lies EdgeD := fun w F e c => ∃ P, c = #[.int .i64 e.id, .int .i64 e.src, .int .i64 e.dst, .string e.type, P] ∧ SOwn 57 7 PaR w F e.props P
theorem EdO.good : EdO.GoodT :=
  ⟨fun ⟨P, e, h⟩ ht hl hS => ⟨P, e, h.turn PaR.good ht hl hS⟩, fun ⟨P, e, h⟩ hF => ⟨P, e, h.mono PaR.good hF⟩⟩
theorem NoO.rd {w : World} {F : Nat → Prop} {n : NodeD} {c : Array Value} (h : NoO w F n c) : NoR w F n c := by
  obtain ⟨L, P, m, e, h1, h2⟩ := h
  exact ⟨L, P, e, (h1.rd TxR.good).mono TxR.good (fun b hb => hb.1), (h2.rd PaR.good).mono PaR.good (fun b hb => hb.1)⟩
theorem EdO.rd {w : World} {F : Nat → Prop} {n : EdgeD} {c : Array Value} (h : EdO w F n c) : EdR w F n c := by
  obtain ⟨P, e, h1⟩ := h
  exact ⟨P, e, h1.rd PaR.good⟩
end Go.Proofs.YtmhjbicbdahllaaGreatDoor
