/- LexQuotes answers true; and the way in and out that every law over the texts shares. -/
import Derived.Test.YtaaomjpkgpjegaaE3
import Derived.Test.YtaaomjpkgpjegaaD6
import Derived.Lib.SmallJoins
import Derived.SliceStrings
import Derived.Carry
namespace Go.Proofs.Ytaaomjpkgpjegaa
open Go.ChangeShapes Go.WideShapes Go.ChangeAt Go.RowKit Go.Joins

theorem laidOut : laidOutB Try.prog = true := by kernel_rfl

/-- What a law's texts read as. -/
theorem texts_open {H : Type} {enc : TypeId × Value → H} {W : World} {base : Nat} {v : Value} {d : DataW H} {p : List MemPlace} (hv : Value.okWide Try.prog W .any base 24 v)
    (h : DataW.Trod enc Try.prog W 0 (fun _ => true) true 24 v d p) :
    ∃ A n cap lang xs, v = .agg #[.slice A n cap, .int .i64 lang] ∧ Reads W W.heap.size 1 A n (strs xs) ∧ n ≤ maxLen ∧ (∀ s ∈ xs, s.size ≤ maxLen) ∧ (Lit.int .i64 lang).wf = true := by
  obtain ⟨v0, v1, y0, y1, m, rfl, rfl, rfl, h0, h1⟩ := open_agg2 Try.underlying24 (by kernel_rfl) (by kernel_rfl) hv h
  obtain ⟨lang, h2, _, hw⟩ := DataW.trod_int (by kernel_rfl : Try.prog.underlying 3 = some (.int .i64)) h1
  injection h2 with h2 _
  subst h2
  rcases Go.ChangeShapes.open_strings Try.underlying22 Try.underlying9 (by kernel_rfl) h0 with ⟨h3, _⟩ | ⟨a, len, cap, ss, h3, _, hlc, hcm, hsl, _, hc, hsm⟩
  · injection h3 with h3 _
    subst h3
    exact ⟨none, 0, 0, lang, [], rfl, Reads.none_, Nat.zero_le _, (fun _ h => by cases h), hw⟩
  · injection h3 with h3 _
    subst h3
    have hll : len ≤ ss.length := by
      rw [hsl]; split <;> omega
    refine ⟨some a, len, cap, lang, ss.take len, rfl, ⟨by simp [strs, hll], fun hn => ⟨a, rfl, ?_, ?_⟩⟩, by omega, fun s hs => hsm s (List.mem_of_mem_take hs), hw⟩
    · have := World.block_lt_of_cell? W _ (hc 0 (by omega))
      simpa [Addr.add] using this
    · intro j u hu
      unfold strs at hu
      rw [List.getElem?_map] at hu
      by_cases hj : j < len
      · rw [List.getElem?_take_of_lt hj, List.getElem?_eq_getElem (by omega)] at hu
        injection hu with hu
        subst hu
        rw [hc j (by omega), List.getD_eq_getElem?_getD, List.getElem?_eq_getElem (by omega)]
        rfl
      · rw [List.getElem?_eq_none (by simp; omega)] at hu
        cases hu

set_option maxRecDepth 100000 in
theorem lexQuotes_lifted (os : Os) (started : os.Started) (H : Type) (enc : TypeId × Value → H) :
    ReturnsInHanded {} Try.checked os 5 .any (Rows.lexQuotesSpec.pre6 enc Try.prog Try.f5 Rows.lexQuotesRow.domain false) (Rows.lexQuotesSpec.post enc Try.prog Try.f5 false true false false) := by
  refine returnsInHanded_of_change (C := Try.checked) own started (by kernel_rfl) Try.func5
    (ChangeSpec.witness6 (enc := enc) (C := Try.checked) false ⟨#[], #[.agg #[.slice none 0 0, .int .i64 0]], []⟩ 8 (by kernel_rfl) (by kernel_rfl) (by kernel_rfl) (by kernel_rfl)) ?_
  intro W base args ds gs before hval0 hW hcnd _
  have hval : ∀ (j : Nat) t v, Try.f5.params[j]? = some t → args[j]? = some v → Value.okWide Try.prog W .any base t v := hval0
  have hW' := hW
  obtain ⟨p, q, hA0, hV, rfl, hfz, hnd⟩ := hW
  have hA : DataW.TrodAll enc Try.prog W 0 (fun _ => true) true Try.f5.params.toList args.toList ds p := hA0
  rw [Try.params5] at hA hval
  obtain ⟨v, d, rfl, rfl, h0⟩ := trodAll_one hA
  obtain ⟨rfl, rfl⟩ := trodVars_none hV
  obtain ⟨A, n, cap, lang, xs, rfl, hr, hn, hx, _⟩ := texts_open (hval 0 24 v rfl rfl) h0
  clear hA0 hval0
  simp only [List.append_nil] at hW'
  have hlt : ∀ x ∈ p, x.block < W.heap.size := fun x hx => hW'.lt x hx
  refine (quotes_any A n cap lang xs W hr hn hx).mono fun e W' ⟨he, hg⟩ => ?_
  subst he
  exact ⟨_, rfl, post_of_below (pa := p) (pv := []) hW' (fun _ _ _ => (trodAll_cons_mk (shut_bool Try.underlying4 _) trodAll_mk0))
    (fun sp hsp => trodAll_mk1 (WideElems.Trod_stays laidOut (by kernel_rfl) (of_decide_eq_true (by kernel_rfl)) h0 (fun x hx => hg.same (hlt x hx)) hsp)) (fun _ _ => rfl) (by simp)
    hg (ok_one (by kernel_rfl) rfl (okWide_bool_mk Try.underlying4 _))⟩

theorem lexQuotes_holds : Rows.LexQuotesSaid :=
  OpenClaim.holds_of_wide 5 Try.f5 rfl rfl rfl rfl rfl rfl rfl ⟨rfl, rfl, rfl, rfl, rfl⟩ rfl rfl rfl rfl rfl (by kernel_rfl) Try.func5 (by kernel_rfl)
    (of_decide_eq_true (by kernel_rfl)) (by unfold Func.isWrapper; first | (rw [if_pos (by decide +kernel)]; kernel_rfl) | (rw [if_neg (by decide +kernel)]; exact ⟨rfl, rfl⟩))
    (fun os started H enc _ => lexQuotes_lifted os started H enc)

end Go.Proofs.Ytaaomjpkgpjegaa
