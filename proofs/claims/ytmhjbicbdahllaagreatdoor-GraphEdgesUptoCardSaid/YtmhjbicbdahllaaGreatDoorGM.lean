/- 'Hops': the numbers of the edges that lead from a node in a direction. -/
import Derived.Test.YtmhjbicbdahllaaGreatDoorGL
namespace Go.Proofs.YtmhjbicbdahllaaGreatDoor
open Go Go.RowKit Go.Maps Go.WideMaps

theorem flatI (zs : List Int) : flatC (fun i => #[.int .i64 (zs.getD i 0)]) zs.length = zs.map (Value.int .i64) := by
  have h6 : ∀ i, i < zs.length → ((fun i => #[Value.int .i64 (zs.getD i 0)]) i).size = 1 := fun _ _ => rfl
  apply List.ext_getElem?
  intro i
  by_cases hi : i < zs.length
  · have h := flatC_at (sz := 1) (j := 0) h6 hi (by omega)
    rw [Nat.mul_one, Nat.add_zero] at h
    rw [h, List.getElem?_map, List.getElem?_eq_getElem hi]
    simp [List.getD, List.getElem?_eq_getElem hi]
  · rw [List.getElem?_eq_none (by rw [flatC_length h6]; omega), List.getElem?_eq_none (by rw [List.length_map]; omega)]
theorem ints_rd {w : World} {base : Nat} {e : TypeId} {v : Value} {zs : List Int} (h : w.ownsInts base e .i64 v zs) : ∃ A c, v = .slice A zs.length c ∧ SRd 1 IxR w (fun b => b < w.heap.size) zs A zs.length := by
  have hs : SOwn e 1 IxR w (fun b => b < w.heap.size) zs v := ⟨fun i => #[.int .i64 (zs.getD i 0)], by
    rw [flatI]
    refine ⟨h.1.1, ?_⟩
    rcases h.1.2 with h1 | ⟨g, cap, cur, h1, _, h2⟩
    · exact .inl h1
    · exact .inr ⟨g, cap, cur, h1, Nat.zero_le _, h2⟩, fun _ _ => rfl, fun g hg => (h.1.lt g hg).2, fun i x hx => by
    show (#[Value.int .i64 (zs.getD i 0)] : Array Value) = #[.int .i64 x]
    simp [List.getD, hx]⟩
  obtain ⟨A, c, e1, _, h2⟩ := hs.rd IxR.good
  exact ⟨A, c, e1, h2⟩
theorem lits_inj {H : Type} {q : IntKind} {l m : List Int} (h : (Go.ChangeShapes.lits q l : List (DataW H)) = Go.ChangeShapes.lits q m) : l = m := by
  unfold Go.ChangeShapes.lits at h
  exact (List.map_inj_right (fun a b e => (Lit.int.inj (DataW.lit.inj e)).2)).1 h
def typeOk (q : List ByteArray) (e : EdgeD) : Bool := q.isEmpty || inB q e.type
def hopIds (es : List EdgeD) (q : List ByteArray) (l : List Nat) : List Int := l.filterMap fun i => (es[i]?).bind fun e => if typeOk q e = true then some e.id else none
theorem hops_lt {es : List EdgeD} {a d : Int} {i : Nat} (h : i ∈ hopsG es a d) : i < es.length := by
  unfold hopsG at h
  exact List.mem_range.1 (List.mem_filter.1 h).1
theorem hops_len (es : List EdgeD) (a d : Int) : (hopsG es a d).length ≤ es.length := by
  unfold hopsG
  have := List.length_filter_le (fun i => (es[i]?.map fun e => hopB e a d).getD false) (List.range es.length)
  rw [List.length_range] at this
  exact this
set_option maxRecDepth 100000 in
set_option maxHeartbeats 4000000 in
theorem hops_any (G : GraphD) (a d : Int) (q : List ByteArray) (lo p : Nat) (Ns Es : Value) (mh mt ma mid n0 : Nat) (F : Nat → Prop) (B : Option Addr) (n2 c2 : Nat) (w : World) (hst : StoreAt w lo p G Ns Es mh mt ma mid n0) (hva : VI a) (hvd : VI d)
    (hF : ∀ b, F b → b < w.heap.size) (hq : SRd 1 TxR w F q B n2) (hn2 : n2 ≤ 1000000000) (hge : G.edges.length ≤ 2000000) :
    Calls Tryz.prog 19 #[.pointer (some ⟨p, 0, none⟩), .int .i64 a, .int .i64 d, .slice B n2 c2] w (NumsIs (hopIds G.edges q (hopsG G.edges a d)) w) := by
  have HST := Lib.hid hst
  have HQ := Lib.hid hq
  have HF := Lib.hid hF
  have hkey := litH_mk hva hvd
  obtain ⟨AE, cE, hEe, _, hEr⟩ := hst.edges
  obtain ⟨nE, HnE⟩ := name_itV G.edges.length
  rw [HnE.out] at hEe hEr hge
  subst hEe
  have HER := Lib.hid (hEr.mono EdR.good (F' := fun b => b < w.heap.size) (fun b hb => by have := hst.loc; omega))
  obtain ⟨D, hown, hat0⟩ := hst.hops
  have HAT := Lib.hid (hat0 a d hva hvd)
  have hn0 : n0 < maxLen := by have := hst.few; unfold maxLen; omega
  have hq2 := Lib.hid hq.1
  have x2 : w.cell? ⟨p, 2, none⟩ = some (.map (some mh)) := Lib.cell_of_heap hst.blk 2
  have HOWN := Lib.hid hown
  have HKEY := Lib.hid hkey
  clear hst hq hF hEr hown hat0 hva hvd hkey
  go_enter Tryz.func19, Tryz.ntmps19
  go_wp2_with (at_lookup; refine wpList_lookup_groups _ rfl _ _ 62 rfl 89 44 3 .i64 lawH Tryz.underlying62 (by kernel_rfl) mid mh n0 D rfl HOWN.out hn0 _ _ rfl HKEY.out ?_; intro v zs hat hoi _ _; have HZ : Hid (zs = natI (hopsG G.edges a d)) := Lib.hid (by have h1 := HAT.out; rw [hat, items_row hoi] at h1; exact lits_inj h1); obtain ⟨A9, c9, hv9, hrd9⟩ := ints_rd hoi; subst hv9; have HR9 := Lib.hid hrd9; clear hat hoi hrd9)
  obtain ⟨nz, Hnz⟩ := name_itV zs.length
  rw [Hnz.out] at HR9
  have hnz : nz ≤ 2000000 := by
    rw [← Hnz.out, HZ.out]
    unfold natI
    rw [List.length_map]
    exact Nat.le_trans (hops_len ..) (by rw [HnE.out]; exact hge)
  rw [Hnz.out]
  clear x2
  have HT0 := Lib.hid (show hopIds G.edges q [] = [] from rfl)
  go_wp2_with fail
  go_loopw [9, 22] (fun s9 s22 wx => ∃ (k : Nat) (ids : List Int), k ≤ nz ∧ s22 = .int .i64 (k : Nat) ∧ ids = hopIds G.edges q ((hopsG G.edges a d).take k) ∧ ids.length ≤ k ∧ Hid (NumsM w ids s9 wx)) (fun _ s22 _ => nz - (intOf s22).toNat)
  case atStart => exact ⟨0, [], by omega, rfl, by rw [List.take_zero]; exact HT0.out.symm, by simp, Lib.hid ⟨Below.refl _ _, SOwn.nil ..⟩⟩
  case round =>
    obtain ⟨k, ids, hk, rfl, hids, hidl, hM⟩ := hrel
    have HIDS := Lib.hid hids
    clear hids
    by_cases hlt : k < nz
    · obtain ⟨i, hi⟩ : ∃ i, (hopsG G.edges a d)[k]? = some i := ⟨(hopsG G.edges a d)[k]'(by
        have h := Hnz.out
        rw [HZ.out] at h
        unfold natI at h
        rw [List.length_map] at h
        omega), List.getElem?_eq_getElem _⟩
      have HI := Lib.hid hi
      have hil : i < nE := by rw [← HnE.out]; exact hops_lt (List.mem_of_getElem? hi)
      have hzi : zs[k]? = some (i : Int) := by
        rw [HZ.out]
        unfold natI
        rw [List.getElem?_map, hi]
        rfl
      obtain ⟨adz, rfl, _, z0⟩ := intAt (HR9.out.under IxR.good hM.out.below (fun b hb => hb)) hzi
      obtain ⟨x, hx⟩ : ∃ x, G.edges[i]? = some x := ⟨G.edges[i]'(by rw [HnE.out]; exact hil), List.getElem?_eq_getElem _⟩
      have HX := Lib.hid hx
      obtain ⟨ad, A2, d2, rfl, hFa, hEd, hl2, q0, q1, q2, q3, q4⟩ := edgesAt (HER.out.under EdR.good hM.out.below (fun b hb => hb)) hx
      clear hi hzi hx hFa hEd hl2
      obtain ⟨id, Hxid⟩ := name_itV x.id
      obtain ⟨src, Hsrc⟩ := name_itV x.src
      obtain ⟨dst, Hdst⟩ := name_itV x.dst
      obtain ⟨typ, Htyp⟩ := name_itV x.type
      obtain ⟨m2, Hm2⟩ := name_itV x.props.length
      rw [Hxid.out] at q0
      rw [Hsrc.out] at q1
      rw [Hdst.out] at q2
      rw [Htyp.out] at q3
      rw [Hm2.out] at q4
      have x1 : wr.cell? ⟨p, 1, none⟩ = some (.slice (some ad) nE cE) := (hM.out.below.cell (blk_lt HST.out.blk)).trans (Lib.cell_of_heap HST.out.blk 1)
      obtain ⟨zn, Hzn⟩ := name_itV wr.heap.size
      obtain ⟨w2, HW2⟩ := name_itV (wr.alloc (.cells #[.int .i64 id, .int .i64 src, .int .i64 dst, .string typ, .slice A2 m2 d2] 41))
      have HB2 := Lib.hid (show Below wr.heap.size wr w2 from by rw [← HW2.out]; exact (Below.refl _ _).alloc (Nat.le_refl _) _)
      have HK2 := Lib.hid (show w2.heap[zn]? = some (.cells #[.int .i64 id, .int .i64 src, .int .i64 dst, .string typ, .slice A2 m2 d2] 41 (0, 0)) from by rw [← HW2.out, ← Hzn.out]; exact heap_alloc_new wr _)
      have HM2 := Lib.hid (hM.out.on HB2.out)
      have hcl := Lib.hid (containsT_any q typ F B n2 c2 w2 (HQ.out.under TxR.good HM2.out.below HF.out) hn2)
      have HMORE := Lib.hid (show hopIds G.edges q ((hopsG G.edges a d).take (k + 1)) = hopIds G.edges q ((hopsG G.edges a d).take k) ++ (if typeOk q x = true then [id] else []) from by
        unfold hopIds
        rw [take_oneMore HI.out, List.filterMap_append]
        congr 1
        rw [← Hxid.out]
        by_cases h : typeOk q x = true
        · simp [HX.out, h]
        · simp [HX.out, h])
      have e1 : (0 : Int) ≤ k := by omega
      have e2 : (k : Int) < nz := by omega
      have e3 : (0 : Int) ≤ i := by omega
      have e4 : (i : Int) < nE := by omega
      have w1 : IntKind.i64.wrap ((k : Int) + 1) = (k : Int) + 1 := IntWalk.i64_in _ (by omega)
      clear hM
      go_upto_region 6 with fail
      rw [Hzn.out, HW2.out]
      clear q0 q1 q2 q3 q4 z0 x1
      have HTO := Lib.hid (show typeOk q x = (decide (n2 = 0) || inB q typ) from by
        unfold typeOk
        rw [Htyp.out]
        congr 1
        rw [hq2.out]
        cases q with
        | nil => rfl
        | cons y r => simp)
      obtain ⟨tk, HTK⟩ := name_itV (typeOk q x)
      rw [HTK.out] at HMORE HTO
      go_cut [41] (fun s41 wx => s41 = .bool tk ∧ wx = w2)
      case first =>
        have b3 : w2.cell? ⟨zn, 3, none⟩ = some (.string typ) := Lib.cell_of_heap HK2.out 3
        by_cases h0 : n2 = 0
        · have t0 : ((n2 : Int) == 0) = true := beq_iff_eq.2 (by omega)
          have HH0 := Lib.hid (show tk = true from by rw [HTO.out, decide_eq_true h0]; rfl)
          clear h0
          go_wp2_with fail
          go_meet
          exact ⟨by rw [HH0.out], rfl⟩
        · have t0 : ((n2 : Int) == 0) = false := beq_eq_false_iff_ne.2 (by omega)
          have HH0 := Lib.hid (show inB q typ = tk from by rw [HTO.out, decide_eq_false h0]; rfl)
          rw [HH0.out] at hcl
          clear h0
          go_wp2_with fail
          refine hcl.out.mono ?_
          rintro e wb ⟨rfl, rfl⟩
          go_wp2_with fail
          go_meet
          exact ⟨rfl, rfl⟩
      case rest =>
        obtain ⟨h41, rfl⟩ := hcut
        subst h41
        cases tk with
        | false =>
          go_wp2_with fail
          go_roundw
          case rel => exact ⟨k + 1, ids, by omega, by go_num, by rw [HMORE.out, HIDS.out]; simp, by omega, HM2⟩
          case measure => simp [intOf]; omega
        | true =>
          obtain ⟨A3, c3, hs3⟩ := HM2.out.own.form
          subst hs3
          obtain ⟨cs, hrow, h6, hFw, hr⟩ := HM2.out.own
          have HH6 := Lib.hid (And.intro h6 (And.intro hFw hr))
          obtain ⟨n3, Hn3⟩ := name_itV ids.length
          rw [Hn3.out] at hrow hidl
          have HROW := Lib.hid hrow
          have b0 : wc.cell? ⟨zn, 0, none⟩ = some (.int .i64 id) := Lib.cell_of_heap HK2.out 0
          clear h6 hFw hr hrow
          rw [Hn3.out]
          go_wp2_with (at_builtin; refine app_new rfl _ _ 42 rfl 0 2 (.int .i64 0) 1 8 Tryz.underlying42 infoI64 rfl (by decide) (.slice A3 n3 c3) n3 (flatC cs n3) rfl HROW.out (Nat.zero_le _) #[.int .i64 id] 1 1 rfl rfl (one_int _ _) (by omega) (by omega) (by decide) ?_; intro g4 cp4 w4 ho4 hg4 hl4; have HO4 := Lib.hid ho4; have HG4 := Lib.hid hg4; have HL4 := Lib.hid hl4; clear ho4 hg4 hl4)
          go_roundw
          case rel =>
            refine ⟨k + 1, ids ++ [id], by omega, by go_num, by rw [HMORE.out, HIDS.out]; simp, by rw [List.length_append, Hn3.out]; simp; omega, Lib.hid ?_⟩
            obtain ⟨h6, hFw, hr⟩ := HH6.out
            have ho := HO4.out
            have hg := HG4.out
            have hl := HL4.out
            rw [← Hn3.out] at ho hg hl ⊢
            refine NumsM.more HM2.out.below h6 hr hFw ho hg hl ?_
            exact (ho.lt g4 rfl).2
          case measure => simp [intOf]; omega
    · have hke : nz = k := by omega
      subst hke
      have HR := Lib.hid (show ids = hopIds G.edges q (hopsG G.edges a d) from by
        rw [HIDS.out, List.take_of_length_le]
        have h := Hnz.out
        rw [HZ.out] at h
        unfold natI at h
        rw [List.length_map] at h
        omega)
      obtain ⟨A, c, hs⟩ := hM.out.own.form
      subst hs
      go_wp2_with fail
      go_ret
      rw [← HR.out]
      exact ⟨A, c, rfl, hM.out.below, hM.out.own.rd IxR.good |>.rd⟩
end Go.Proofs.YtmhjbicbdahllaaGreatDoor
