/- LexJoins answers true. -/
import Derived.Test.YtaaomjpkgpjegaaE4
import Derived.Test.YtaaomjpkgpjegaaG6
import Derived.SizedLaws
namespace Go.Proofs.Ytaaomjpkgpjegaa
open Go.ChangeShapes Go.WideShapes Go.ChangeAt Go.RowKit Go.Joins

theorem weightsAll_mem {H : Type} {P : Program} {e : TypeId} : ∀ {l : List (DataW H)} {d : DataW H}, d ∈ l → ∀ n ∈ d.weights P e, n ∈ DataW.weightsAll P e l
  | d' :: r, d, hd, n, hn => by
    simp only [DataW.weightsAll, List.mem_append]
    rcases List.mem_cons.1 hd with rfl | h
    · exact Or.inl hn
    · exact Or.inr (weightsAll_mem h n hn)

theorem texts_reach {H : Type} {ss rest : List ByteArray} {y : DataW H} (h : (DataW.weightsEach Try.prog [24] [DataW.agg [DataW.slice (ChangeShapes.strs ss) (ChangeShapes.strs rest), y]]).all (· ≤ reachBytes) = true) :
    ∀ s ∈ ss, s.size ≤ 140737488351232 := by
  intro s hs
  have hm : s.data.toList.length ∈ DataW.weightsEach Try.prog [24] [DataW.agg [DataW.slice (ChangeShapes.strs ss) (ChangeShapes.strs rest), y]] := by
    simp only [DataW.weightsEach, DataW.weights, Try.underlying24, Try.underlying22, List.map_cons, List.map_nil, List.mem_append, List.mem_cons]
    refine .inl (.inl (.inr (.inl (weightsAll_mem (d := .lit (.string s.data.toList)) ?_ _ (by simp [DataW.weights])))))
    exact List.mem_map.2 ⟨s, hs, rfl⟩
  have this : s.data.toList.length ≤ reachBytes := of_decide_eq_true (List.all_eq_true.1 h _ hm)
  unfold reachBytes at this
  have e : s.data.toList.length = s.size := by simp
  omega

/-- What a law's texts read as, within the form's reach. -/
theorem texts_sized {H : Type} {enc : TypeId × Value → H} {W : World} {base : Nat} {v : Value} {d : DataW H} {p : List MemPlace} (hv : Value.okWide Try.prog W .any base 24 v)
    (h : DataW.Trod enc Try.prog W 0 (fun _ => true) true 24 v d p) (hz : (DataW.weightsEach Try.prog [24] [d]).all (· ≤ reachBytes) = true) :
    ∃ A n cap lang xs, v = .agg #[.slice A n cap, .int .i64 lang] ∧ Reads W W.heap.size 1 A n (strs xs) ∧ n ≤ maxLen ∧ (∀ s ∈ xs, s.size ≤ 140737488351232) := by
  obtain ⟨v0, v1, y0, y1, m, rfl, rfl, rfl, h0, h1⟩ := open_agg2 Try.underlying24 (by kernel_rfl) (by kernel_rfl) hv h
  obtain ⟨lang, h2, _, hw⟩ := DataW.trod_int (by kernel_rfl : Try.prog.underlying 3 = some (.int .i64)) h1
  injection h2 with h2 _
  subst h2
  rcases Go.ChangeShapes.open_strings Try.underlying22 Try.underlying9 (by kernel_rfl) h0 with ⟨h3, _⟩ | ⟨a, len, cap, ss, h3, _, hlc, hcm, hsl, hy, hc, hsm⟩
  · injection h3 with h3 _
    subst h3
    exact ⟨none, 0, 0, lang, [], rfl, Reads.none_, Nat.zero_le _, (fun _ h => by cases h)⟩
  · injection h3 with h3 _
    subst h3
    subst hy
    have hll : len ≤ ss.length := by
      rw [hsl]; split <;> omega
    refine ⟨some a, len, cap, lang, ss.take len, rfl, ⟨by simp [strs, hll], fun hn => ⟨a, rfl, ?_, ?_⟩⟩, by omega, texts_reach hz⟩
    · have := World.block_lt_of_cell? W _ (hc 0 (by omega))
      simpa [Addr.add] using this
    · intro j u hu
      unfold strs at hu
      rw [List.getElem?_map] at hu
      by_cases hj : j < len
      · rw [List.getElem?_take_of_lt hj, List.getElem?_eq_getElem (by omega)] at hu
        injection hu with hu
        subst hu
        rw [hc j (by omega), List.getD_eq_getElem?_getD, List.getElem?_eq_getElem (by omega)]
        rfl
      · rw [List.getElem?_eq_none (by simp; omega)] at hu
        cases hu

set_option maxRecDepth 100000 in
theorem lexJoins_lifted (os : Os) (started : os.Started) (H : Type) (enc : TypeId × Value → H) :
    ReturnsInHanded {} Try.checked os 7 .any (Rows.lexJoinsSpec.pre6 enc Try.prog Try.f7 Rows.lexJoinsRow.domain false) (Rows.lexJoinsSpec.post enc Try.prog Try.f7 false true false false) := by
  refine returnsInHanded_of_change_sized (C := Try.checked) own started (by kernel_rfl) Try.func7
    (ChangeSpec.witness6 (enc := enc) (C := Try.checked) false ⟨#[], #[.agg #[.slice none 0 0, .int .i64 0]], []⟩ 8 (by kernel_rfl) (by kernel_rfl) (by kernel_rfl) (by kernel_rfl)) ?_
  intro W base args ds gs before hval0 hW hcnd hsz0 _
  have hval : ∀ (j : Nat) t v, Try.f7.params[j]? = some t → args[j]? = some v → Value.okWide Try.prog W .any base t v := hval0
  have hW' := hW
  obtain ⟨p, q, hA0, hV, rfl, hfz, hnd⟩ := hW
  have hA : DataW.TrodAll enc Try.prog W 0 (fun _ => true) true Try.f7.params.toList args.toList ds p := hA0
  have hsz : (DataW.weightsEach Try.prog (Try.f7.params.toList ++ Rows.lexJoinsSpec.plain.varTypes Try.prog) (ds ++ gs)).all (· ≤ reachBytes) = true := hsz0
  rw [Try.params7] at hA hval hsz
  obtain ⟨v, d, rfl, rfl, h0⟩ := trodAll_one hA
  obtain ⟨rfl, rfl⟩ := trodVars_none hV
  have hsz2 : (DataW.weightsEach Try.prog [24] [d]).all (· ≤ reachBytes) = true := hsz
  obtain ⟨A, n, cap, lang, xs, rfl, hr, hn, hx⟩ := texts_sized (hval 0 24 v rfl rfl) h0 hsz2
  clear hA0 hval0 hsz0 hsz hsz2
  simp only [List.append_nil] at hW'
  have hlt : ∀ x ∈ p, x.block < W.heap.size := fun x hx => hW'.lt x hx
  refine (joins_any A n cap lang xs W hr hn hx).mono fun e W' ⟨he, hg⟩ => ?_
  subst he
  exact ⟨_, rfl, post_of_below (pa := p) (pv := []) hW' (fun _ _ _ => (trodAll_cons_mk (shut_bool Try.underlying4 _) trodAll_mk0))
    (fun sp hsp => trodAll_mk1 (WideElems.Trod_stays laidOut (by kernel_rfl) (of_decide_eq_true (by kernel_rfl)) h0 (fun x hx => hg.same (hlt x hx)) hsp)) (fun _ _ => rfl) (by simp)
    hg (ok_one (by kernel_rfl) rfl (okWide_bool_mk Try.underlying4 _))⟩

theorem lexJoins_holds : Rows.LexJoinsSaid :=
  OpenClaim.holds_of_wide 7 Try.f7 rfl rfl rfl rfl rfl rfl rfl ⟨rfl, rfl, rfl, rfl, rfl⟩ rfl rfl rfl rfl rfl (by kernel_rfl) Try.func7 (by kernel_rfl)
    (of_decide_eq_true (by kernel_rfl)) (by unfold Func.isWrapper; first | (rw [if_pos (by decide +kernel)]; kernel_rfl) | (rw [if_neg (by decide +kernel)]; exact ⟨rfl, rfl⟩))
    (fun os started H enc _ => lexJoins_lifted os started H enc)

end Go.Proofs.Ytaaomjpkgpjegaa
