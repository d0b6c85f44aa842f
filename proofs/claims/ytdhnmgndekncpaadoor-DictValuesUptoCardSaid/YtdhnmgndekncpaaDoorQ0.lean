/- The way in and out that the laws over dictionaries share. -/
import Derived.Test.YtdhnmgndekncpaaDoorRows
import Derived.Test.YtdhnmgndekncpaaDoorR0
import Derived.ProofKit
import Derived.OpenShut
import Derived.Below
import Derived.ChangeSame
import Derived.Lib.SmallJoins
import Derived.SliceStrings
import Derived.Carry
namespace Go.Proofs.YtdhnmgndekncpaaDoor
open Go Go.ChangeShapes Go.WideShapes Go.ChangeAt Go.RowKit Go.Joins

section
variable {H : Type} {enc : TypeId × Value → H} {P : Program}
theorem post_of_below {f : Func} {s : ChangeSpec} {apart fresh handsOn again : Bool} {W W' : World} {args : Array Value} {v : Value} {ds gs : List (DataW H)} {before pa pv : List MemPlace}
    (hW : DataW.Whole enc P f.params.toList s.vars apart W args.toList ds gs before)
    (hres : ∀ (b : Nat) (sp : Nat → Bool) (hd : Bool), DataW.TrodAll enc P W' b sp hd f.resultTypes.toList (v.resultList f.resultTypes.size) (s.fn H (ds ++ gs)).results [])
    (hargs : ∀ sp : Nat → Bool, (∀ p ∈ before, sp p.block = true) → DataW.TrodAll enc P W' 0 sp true f.params.toList args.toList (s.fn H (ds ++ gs)).args pa)
    (hvars : ∀ sp : Nat → Bool, (∀ p ∈ before, sp p.block = true) → DataW.TrodVars enc P W' sp s.vars (s.fn H (ds ++ gs)).vars pv)
    (hps : before = pa ++ pv) (hb : Below W.heap.size W W')
    (hok : ∀ (j : Nat) (t : TypeId) (r : Value), f.resultTypes[j]? = some t → (v.resultList f.resultTypes.size)[j]? = some r → Value.okWide P W' .any 0 t r) :
    s.post enc P f apart fresh handsOn again W args v W' := by
  have hlt : ∀ p ∈ before, p.block < W.heap.size := fun p hp => hW.lt p hp
  have hold : ∀ p ∈ before, (fun b => decide (b < W.heap.size)) p.block = true := fun p hp => by simpa using hlt p hp
  refine ⟨ds, gs, before, [], pa, pv, hW, hres _ _ _, hargs _ hold, hvars _ hold, World.keptBut_mono (fun p hp => ⟨hp, ?_⟩) (hb.frame (· ∈ before)), fun _ => ?_⟩
  · rw [hps, List.mem_append] at hp
    exact Or.inr hp
  · obtain ⟨_, _, _, _, _, hz, hn⟩ := hW
    refine ⟨hok, _, _, ([] ++ pa) ++ pv, ⟨[] ++ pa, pv, trodAll_append (hargs _ (fun _ _ => rfl)) (hres _ _ _), hvars _ (fun _ _ => rfl), rfl, ?_, ?_⟩, ?_⟩
    · intro b off hp
      have hin : MemPlace.cell b off ∈ before := by rw [hps]; simpa using hp
      rw [hb.frozen (hlt _ hin)]
      exact hz b off hin
    · intro ha
      have := hn ha
      rw [hps] at this
      simpa using this
    · intro p hp _
      rw [hps]
      simpa using hp
end

theorem own : ownKnob Tryd.prog.godebug = none := by kernel_rfl
theorem laidOut : laidOutB Tryd.prog = true := by kernel_rfl

/-- What a slice of texts reads as. -/
theorem strs_open {H : Type} {enc : TypeId × Value → H} {W : World} {spare : Nat → Bool} {held : Bool} {v : Value} {d : DataW H} {p : List MemPlace} {fuel : Nat}
    (h : DataW.trod enc Tryd.prog W 0 spare held fuel 22 [v] = some (d, p)) (hsp : spare = fun _ => true) :
    ∃ A n cap xs, v = .slice A n cap ∧ Reads W W.heap.size 1 A n (strs xs) ∧ n ≤ maxLen ∧ ∀ s ∈ xs, s.size ≤ maxLen := by
  subst hsp
  rcases Go.ChangeShapes.open_strings Tryd.underlying22 Tryd.underlying9 (by kernel_rfl) h with ⟨h3, _⟩ | ⟨a, len, cap, ss, h3, _, hlc, hcm, hsl, _, hc, hsm⟩
  · injection h3 with h3 _
    subst h3
    exact ⟨none, 0, 0, [], rfl, Reads.none_, Nat.zero_le _, fun _ h => by cases h⟩
  · injection h3 with h3 _
    subst h3
    have hll : len ≤ ss.length := by
      rw [hsl]; split <;> omega
    refine ⟨some a, len, cap, ss.take len, rfl, ⟨by simp [strs, hll], fun hn => ⟨a, rfl, ?_, ?_⟩⟩, by omega, fun s hs => hsm s (List.mem_of_mem_take hs)⟩
    · have := World.block_lt_of_cell? W _ (hc 0 (by omega))
      simpa [Addr.add] using this
    · intro j u hu
      unfold strs at hu
      rw [List.getElem?_map] at hu
      by_cases hj : j < len
      · rw [List.getElem?_take_of_lt hj, List.getElem?_eq_getElem (by omega)] at hu
        injection hu with hu
        subst hu
        rw [hc j (by omega), List.getD_eq_getElem?_getD, List.getElem?_eq_getElem (by omega)]
        rfl
      · rw [List.getElem?_eq_none (by simp; omega)] at hu
        cases hu
/-- What a slice of numbers reads as, with its datum's length. -/
theorem ints_sized {H : Type} {enc : TypeId × Value → H} {W : World} {spare : Nat → Bool} {held : Bool} {v : Value} {d : DataW H} {p : List MemPlace} {fuel : Nat}
    (h : DataW.trod enc Tryd.prog W 0 spare held fuel 23 [v] = some (d, p)) (hsp : spare = fun _ => true) :
    ∃ A n cap xs, v = .slice A n cap ∧ Reads W W.heap.size 1 A n (ints xs) ∧ n ≤ maxLen ∧ (∀ s ∈ xs, (Lit.int .i64 s).wf = true) ∧ (n = 0 ∨ ∃ es sp, d = .slice es sp ∧ es.length = n) := by
  subst hsp
  rcases Go.ChangeShapes.open_ints Tryd.underlying23 Tryd.underlying3 (by kernel_rfl) h with ⟨h3, _⟩ | ⟨a, len, cap, ss, h3, _, hlc, hcm, hsl, hd, hc, hsm⟩
  · injection h3 with h3 _
    subst h3
    exact ⟨none, 0, 0, [], rfl, Reads.none_, Nat.zero_le _, (fun _ h => by cases h), .inl rfl⟩
  · injection h3 with h3 _
    subst h3
    have hll : len ≤ ss.length := by
      rw [hsl]; split <;> omega
    refine ⟨some a, len, cap, ss.take len, rfl, ⟨by simp [ints, hll], fun hn => ⟨a, rfl, ?_, ?_⟩⟩, by omega, (fun s hs => hsm s (List.mem_of_mem_take hs)), .inr ⟨_, _, congrArg Prod.fst hd, by simp [lits, hll]⟩⟩
    · have := World.block_lt_of_cell? W _ (hc 0 (by omega))
      simpa [Addr.add] using this
    · intro j u hu
      unfold ints at hu
      rw [List.getElem?_map] at hu
      by_cases hj : j < len
      · rw [List.getElem?_take_of_lt hj, List.getElem?_eq_getElem (by omega)] at hu
        injection hu with hu
        subst hu
        rw [hc j (by omega), List.getD_eq_getElem?_getD, List.getElem?_eq_getElem (by omega)]
        rfl
      · rw [List.getElem?_eq_none (by simp; omega)] at hu
        cases hu
/-- What a slice of numbers reads as. -/
theorem ints_open {H : Type} {enc : TypeId × Value → H} {W : World} {spare : Nat → Bool} {held : Bool} {v : Value} {d : DataW H} {p : List MemPlace} {fuel : Nat}
    (h : DataW.trod enc Tryd.prog W 0 spare held fuel 23 [v] = some (d, p)) (hsp : spare = fun _ => true) :
    ∃ A n cap xs, v = .slice A n cap ∧ Reads W W.heap.size 1 A n (ints xs) ∧ n ≤ maxLen ∧ ∀ s ∈ xs, (Lit.int .i64 s).wf = true := by
  obtain ⟨A, n, cap, xs, h1, h2, h3, h4, _⟩ := ints_sized h hsp
  exact ⟨A, n, cap, xs, h1, h2, h3, h4⟩
set_option maxRecDepth 100000 in
/-- What a law's keys read as. -/
theorem keys_open {H : Type} {enc : TypeId × Value → H} {W : World} {base : Nat} {v : Value} {d : DataW H} {p : List MemPlace} (hv : Value.okWide Tryd.prog W .any base 25 v)
    (h : DataW.Trod enc Tryd.prog W 0 (fun _ => true) true 25 v d p) :
    ∃ A n cap xs A2 n2 cap2 ys, v = .agg #[.slice A n cap, .slice A2 n2 cap2] ∧ Reads W W.heap.size 1 A n (strs xs) ∧ n ≤ maxLen ∧ (∀ s ∈ xs, s.size ≤ maxLen) ∧
      Reads W W.heap.size 1 A2 n2 (ints ys) ∧ n2 ≤ maxLen ∧ ∀ s ∈ ys, (Lit.int .i64 s).wf = true := by
  obtain ⟨v0, v1, y0, y1, m, rfl, rfl, rfl, h0, h1⟩ := open_agg2 Tryd.underlying25 (by kernel_rfl) (by kernel_rfl) hv h
  obtain ⟨A, n, cap, xs, rfl, a1, a2, a3⟩ := strs_open h0 rfl
  obtain ⟨A2, n2, cap2, ys, rfl, b1, b2, b3⟩ := ints_open h1 rfl
  exact ⟨A, n, cap, xs, A2, n2, cap2, ys, rfl, a1, a2, a3, b1, b2, b3⟩
end Go.Proofs.YtdhnmgndekncpaaDoor
