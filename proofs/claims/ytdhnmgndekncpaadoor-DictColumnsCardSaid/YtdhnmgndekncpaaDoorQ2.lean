/- DictColumns answers true: any cells: each as it was put, nulls as nulls; taken in any order, again and again, or the refusal; no condition. -/
import Derived.Test.YtdhnmgndekncpaaDoorN3
import Derived.Test.YtdhnmgndekncpaaDoorQ0
import Derived.Test.YtdhnmgndekncpaaDoorCards
import Derived.Test.YtdhnmgndekncpaaDoorTie
import Derived.Lay
import Derived.LaidOnce
import Derived.SevenTiedAt
import Derived.Deep.SlicePairs
namespace Go.Proofs.YtdhnmgndekncpaaDoor
open Go Go.ChangeShapes Go.WideShapes Go.ChangeAt Go.RowKit Go.Joins

theorem cellsOf_length (L : List (Int × Bool)) : (cellsOf L).length = L.length * 2 := by
  unfold cellsOf
  induction L with
  | nil => rfl
  | cons a r ih => rw [List.flatMap_cons, List.length_append, ih, List.length_cons]; simp; omega
theorem cellsOf_get {L : List (Int × Bool)} {j : Nat} {u : Value} (h : (cellsOf L)[j]? = some u) : ∃ c, L[j / 2]? = some c ∧ u = if j % 2 = 0 then .int .i64 c.1 else .bool c.2 := by
  have hl : j < L.length * 2 := by
    rcases Nat.lt_or_ge j (L.length * 2) with h' | h'
    · exact h'
    · rw [List.getElem?_eq_none (by rw [cellsOf_length]; exact h')] at h; cases h
  have hx : L[j / 2]? = some (L[j / 2]'(by omega)) := List.getElem?_eq_getElem _
  refine ⟨_, hx, ?_⟩
  obtain ⟨q1, q2⟩ := cellsOf_at hx
  by_cases h2 : j % 2 = 0
  · rw [if_pos h2]
    rw [show j / 2 * 2 = j by omega, h] at q1
    injection q1
  · rw [if_neg h2]
    rw [show j / 2 * 2 + 1 = j by omega, h] at q2
    injection q2
/-- What a slice of cells reads as. -/
theorem cells_open {H : Type} {enc : TypeId × Value → H} {W : World} {spare : Nat → Bool} {held : Bool} {v : Value} {d : DataW H} {p : List MemPlace} {fuel : Nat}
    (h : DataW.trod enc Tryd.prog W 0 spare held fuel 48 [v] = some (d, p)) (hsp : spare = fun _ => true) :
    ∃ A n cap L, v = .slice A n cap ∧ Reads W W.heap.size 2 A n (cellsOf L) := by
  subst hsp
  rcases Go.Deep.open_slice_pairs Tryd.underlying48 Tryd.underlying54 (by kernel_rfl) rfl rfl (by kernel_rfl) (by kernel_rfl) h with ⟨h3, _⟩ | ⟨a, len, cap, m, n, V0, V1, D0, D1, P0, P1, h3, _, hlc, hcm, hm, _, hc⟩
  · injection h3 with h3 _
    subst h3
    exact ⟨none, 0, 0, [], rfl, Reads.none_⟩
  · injection h3 with h3 _
    subst h3
    have hml : len ≤ m := by rw [hm]; split <;> omega
    have each : ∀ i, i < m → ∃ N nu, V0 i = .int .i64 N ∧ V1 i = .bool nu := fun i hi => by
      obtain ⟨_, _, t0, t1⟩ := hc i hi
      obtain ⟨N, h0, _, _⟩ := DataW.trod_int (by kernel_rfl : Tryd.prog.underlying 2 = some (.int .i64)) t0
      obtain ⟨nu, h1, _⟩ := DataW.trod_bool (by kernel_rfl : Tryd.prog.underlying 4 = some .bool) t1
      injection h0 with h0 _
      injection h1 with h1 _
      exact ⟨N, nu, h0, h1⟩
    let N0 : Nat → Int := fun i => match V0 i with | .int _ x => x | _ => 0
    let B0 : Nat → Bool := fun i => match V1 i with | .bool x => x | _ => false
    refine ⟨some a, len, cap, (List.range len).map fun i => (N0 i, B0 i), rfl, ?_, fun hn => ⟨a, rfl, ?_, ?_⟩⟩
    · rw [cellsOf_length]; simp
    · have := World.block_lt_of_cell? W _ (hc 0 (by omega)).1
      simpa [Addr.add] using this
    · intro j u hu
      obtain ⟨c, hcc, hu2⟩ := cellsOf_get hu
      rw [List.getElem?_map] at hcc
      have hjl : j / 2 < len := by
        rcases Nat.lt_or_ge (j / 2) len with h' | h'
        · exact h'
        · rw [List.getElem?_eq_none (by simpa using h')] at hcc; cases hcc
      rw [List.getElem?_range hjl] at hcc
      injection hcc with hcc
      subst hcc
      obtain ⟨c0, c1, _, _⟩ := hc (j / 2) (by omega)
      obtain ⟨N, nu, e0, e1⟩ := each (j / 2) (by omega)
      rw [hu2]
      by_cases h2 : j % 2 = 0
      · rw [if_pos h2]
        have e : j / 2 * 2 = j := by omega
        rw [e] at c0
        rw [c0]
        simp only [N0, e0]
      · rw [if_neg h2]
        have e : j / 2 * 2 + 1 = j := by omega
        rw [e] at c1
        rw [c1]
        simp only [B0, e1]

theorem columns_reach {H : Type} {d0 d1 : DataW H} {es sp : List (DataW H)} (h : (DataW.weightsEach Tryd.prog [50] [DataW.agg [d0, d1, .slice es sp]]).all (· ≤ reachBytes) = true) : es.length < 17592186044415 := by
  have hm : (es.length + sp.length) * Tryd.prog.bytesOf 3 ∈ DataW.weightsEach Tryd.prog [50] [DataW.agg [d0, d1, .slice es sp]] := by
    simp only [DataW.weightsEach, DataW.weights, Tryd.underlying50, Tryd.underlying23, List.map_cons, List.map_nil, List.mem_append, List.mem_cons]
    simp
  have this : (es.length + sp.length) * Tryd.prog.bytesOf 3 ≤ reachBytes := of_decide_eq_true (List.all_eq_true.1 h _ hm)
  rw [show Tryd.prog.bytesOf 3 = 8 by kernel_rfl] at this
  unfold reachBytes at this
  omega

set_option maxRecDepth 100000 in
/-- What a law's column reads as, within the form's reach. -/
theorem columns_open {H : Type} {enc : TypeId × Value → H} {W : World} {base : Nat} {v : Value} {d : DataW H} {p : List MemPlace} (hv : Value.okWide Tryd.prog W .any base 50 v)
    (h : DataW.Trod enc Tryd.prog W 0 (fun _ => true) true 50 v d p) (hz : (DataW.weightsEach Tryd.prog [50] [d]).all (· ≤ reachBytes) = true) :
    ∃ A n cap L A1 n1 cap1 ys A2 n2 cap2 ts, v = .agg #[.slice A n cap, .slice A1 n1 cap1, .slice A2 n2 cap2] ∧ Reads W W.heap.size 2 A n (cellsOf L) ∧ Reads W W.heap.size 1 A1 n1 (ints ys) ∧ Reads W W.heap.size 1 A2 n2 (ints ts) ∧ n2 < 17592186044415 := by
  obtain ⟨v0, v1, v2, y0, y1, y2, m, rfl, rfl, rfl, h0, h1, h2⟩ := open_agg3 Tryd.underlying50 (by kernel_rfl) (by kernel_rfl) hv h
  obtain ⟨A, n, cap, L, rfl, a1⟩ := cells_open h0 rfl
  obtain ⟨A1, n1, cap1, ys, rfl, b1, _, _⟩ := ints_open h1 rfl
  obtain ⟨A2, n2, cap2, ts, rfl, c1, _, _, c4⟩ := ints_sized h2 rfl
  refine ⟨A, n, cap, L, A1, n1, cap1, ys, A2, n2, cap2, ts, rfl, a1, b1, c1, ?_⟩
  rcases c4 with rfl | ⟨es, sp, h3, h4⟩
  · omega
  · have h3 : y2.1 = DataW.slice es sp := h3
    rw [h3] at hz
    have := columns_reach hz
    omega

set_option maxRecDepth 100000 in
theorem dictColumns_lifted (os : Os) (started : os.Started) (H : Type) (enc : TypeId × Value → H) :
    ReturnsInHanded {} Tryd.checked os 5 .any (fun w args => (Rows.dictColumnsSpec.pre enc Tryd.prog Tryd.f5 [] false w args ∧ laidMetH Tryd.prog Rows.dictColumnsRow.laid w) ∧ sizedMet enc Tryd.prog Tryd.f5 (OpenSpec.ofChange Rows.dictColumnsSpec) false w args)
      (Rows.dictColumnsSpec.post enc Tryd.prog Tryd.f5 false true false false) := by
  refine returnsInHanded_of_change_and (C := Tryd.checked) (X := fun w _ => laidMetH Tryd.prog Rows.dictColumnsRow.laid w) (fun _ _ _ hh h => h.of_heap hh) own started (by kernel_rfl) Tryd.func5
    (ChangeSpec.witness_shaped (enc := enc) (C := Tryd.checked) (os := os) (X := fun w _ => laidMetH Tryd.prog Rows.dictColumnsRow.laid w) false (World.laidAll Tryd.prog os Rows.dictColumnsRow.laid) #[.agg #[.slice none 0 0, .slice none 0 0, .slice none 0 0]] 8 (World.laidAll_os _ _ _)
      (World.shaped_of_ZipB (by kernel_rfl) (by kernel_rfl)) (by kernel_rfl) (by kernel_rfl) (by kernel_rfl)
      (by rw [MakeChecks.laidMetH_plain _ _ _ (by kernel_rfl)]; exact laidMet_laidAll _ (by kernel_rfl) (by kernel_rfl))) ?_
  intro W base args ds gs before hval0 hW _ hsz0 _ _
  have hval : ∀ (j : Nat) t v, Tryd.f5.params[j]? = some t → args[j]? = some v → Value.okWide Tryd.prog W .any base t v := hval0
  have hW' := hW
  obtain ⟨p, q, hA0, hV, rfl, hfz, hnd⟩ := hW
  have hA : DataW.TrodAll enc Tryd.prog W 0 (fun _ => true) true Tryd.f5.params.toList args.toList ds p := hA0
  have hsz : (DataW.weightsEach Tryd.prog (Tryd.f5.params.toList ++ Rows.dictColumnsSpec.plain.varTypes Tryd.prog) (ds ++ gs)).all (· ≤ reachBytes) = true := hsz0
  rw [Tryd.params5] at hA hval hsz
  obtain ⟨v, d, rfl, rfl, h0⟩ := trodAll_one hA
  obtain ⟨rfl, rfl⟩ := trodVars_none hV
  have hsz2 : (DataW.weightsEach Tryd.prog [50] [d]).all (· ≤ reachBytes) = true := hsz
  obtain ⟨A, n, cap, L, A1, n1, cap1, ys, A2, n2, cap2, ts, rfl, a1, b1, c1, hn2⟩ := columns_open (hval 0 50 v rfl rfl) h0 hsz2
  clear hsz0 hsz hsz2
  clear hA0 hval0
  simp only [List.append_nil] at hW'
  have hlt : ∀ x ∈ p, x.block < W.heap.size := fun x hx => hW'.lt x hx
  refine (columns_any A n cap A1 n1 cap1 A2 n2 cap2 L ys ts W a1 b1 c1 hn2).mono fun e W' ⟨he, hg⟩ => ?_
  subst he
  exact ⟨_, rfl, post_of_below (pa := p) (pv := []) hW' (fun _ _ _ => (trodAll_cons_mk (shut_bool Tryd.underlying4 _) trodAll_mk0))
    (fun sp hsp => trodAll_mk1 (WideElems.Trod_stays laidOut (by kernel_rfl) (of_decide_eq_true (by kernel_rfl)) h0 (fun x hx => hg.same (hlt x hx)) hsp)) (fun _ _ => rfl) (by simp)
    hg (ok_one (by kernel_rfl) rfl (okWide_bool_mk Tryd.underlying4 _))⟩

theorem dictColumns_holds : Rows.DictColumnsSaid :=
  OpenClaim.holds_of_wide 5 Tryd.f5 rfl rfl rfl rfl rfl rfl rfl ⟨rfl, rfl, rfl, rfl, rfl⟩ rfl rfl rfl rfl rfl (by kernel_rfl) Tryd.func5 (by kernel_rfl)
    (of_decide_eq_true (by kernel_rfl)) (by unfold Func.isWrapper; first | (rw [if_pos (by decide +kernel)]; kernel_rfl) | (rw [if_neg (by decide +kernel)]; exact ⟨rfl, rfl⟩))
    (fun os started H enc _ => dictColumns_lifted os started H enc)

theorem dictColumns_card : Rows.DictColumnsCardSaid :=
  Claim7.holds_tied_plain_at .later [] [.data, .pinned] true (true, "7db711b63d630703e0d9f10b6afa09025ea95db4e6e4a820746a6ef2b5b72e45") true dictColumns_holds (fun _ h => by cases h) (by kernel_rfl) (fun _ h => by cases h) dictColumns_row_tie rfl ⟨rfl, rfl⟩ (by kernel_rfl) rfl
    (fun f fn hf hfn => by
      obtain rfl : f = 5 := Option.some.inj ((show Tryd.prog.funcNamed "diptych/diptychlaw4.DictColumns" = some 5 by kernel_rfl).symm.trans hf) |>.symm
      obtain rfl : fn = Tryd.f5 := (Option.some.inj (Tryd.func5.symm.trans hfn)).symm
      exact ⟨by kernel_rfl, fun j t ht => by
        rw [Tryd.params5] at ht
        have hm : t ∈ [50] := by simpa using Array.mem_of_getElem? ht
        have hall : ([50].all fun u => !Tryd.prog.wantsStandIn u) = true := by kernel_rfl
        exact (show Tryd.prog.wantsStandIn t = false by simpa using List.all_eq_true.1 hall t hm)⟩)
    (by kernel_rfl)
end Go.Proofs.YtdhnmgndekncpaaDoor
