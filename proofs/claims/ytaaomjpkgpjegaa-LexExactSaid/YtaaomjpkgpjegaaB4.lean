/- Plain law: what a quoted text is read as. -/
import Derived.Test.YtaaomjpkgpjegaaD1
namespace Go.Proofs.Ytaaomjpkgpjegaa

/-- A byte that may not stand in a text: below 32, and no tab and no line end. -/
def badC (c : UInt8) : Bool := decide (c < 32) && c != 10 && c != 9

theorem quoScan_quote : ∀ (l : List UInt8) (k : Nat) (acc t : List UInt8), quoScan k acc (l.flatMap escL ++ 34 :: t) =
    if l.any badC then none else some (acc ++ l, k + (l.flatMap escL).length + 1) := by
  intro l
  induction l with
  | nil => intro k acc t; simp [quoScan_cons]
  | cons c l ih =>
    intro k acc t
    by_cases h1 : c = 34
    · subst h1
      have : ([92, 34] ++ l.flatMap escL) ++ 34 :: t = 92 :: 34 :: (l.flatMap escL ++ 34 :: t) := by simp
      have he : escL 34 = [92, 34] := rfl
      have hb : badC 34 = false := rfl
      rw [List.flatMap_cons, he, this, quoScan_cons, if_neg (by decide), if_pos rfl]
      simp only [show unesc 34 = some 34 from rfl]
      rw [ih]
      simp only [List.any_cons, hb, Bool.false_or]
      split <;> simp
      omega
    by_cases h2 : c = 92
    · subst h2
      have : ([92, 92] ++ l.flatMap escL) ++ 34 :: t = 92 :: 92 :: (l.flatMap escL ++ 34 :: t) := by simp
      have he : escL 92 = [92, 92] := rfl
      have hb : badC 92 = false := rfl
      rw [List.flatMap_cons, he, this, quoScan_cons, if_neg (by decide), if_pos rfl]
      simp only [show unesc 92 = some 92 from rfl]
      rw [ih]
      simp only [List.any_cons, hb, Bool.false_or]
      split <;> simp
      omega
    by_cases h3 : c = 10
    · subst h3
      have : ([92, 110] ++ l.flatMap escL) ++ 34 :: t = 92 :: 110 :: (l.flatMap escL ++ 34 :: t) := by simp
      have he : escL 10 = [92, 110] := rfl
      have hb : badC 10 = false := rfl
      rw [List.flatMap_cons, he, this, quoScan_cons, if_neg (by decide), if_pos rfl]
      simp only [show unesc 110 = some 10 from rfl]
      rw [ih]
      simp only [List.any_cons, hb, Bool.false_or]
      split <;> simp
      omega
    by_cases h4 : c = 9
    · subst h4
      have : ([92, 116] ++ l.flatMap escL) ++ 34 :: t = 92 :: 116 :: (l.flatMap escL ++ 34 :: t) := by simp
      have he : escL 9 = [92, 116] := rfl
      have hb : badC 9 = false := rfl
      rw [List.flatMap_cons, he, this, quoScan_cons, if_neg (by decide), if_pos rfl]
      simp only [show unesc 116 = some 9 from rfl]
      rw [ih]
      simp only [List.any_cons, hb, Bool.false_or]
      split <;> simp
      omega
    have he : escL c = [c] := by unfold escL; rw [if_neg h1, if_neg h2, if_neg h3, if_neg h4]
    rw [List.flatMap_cons, he, List.singleton_append, List.cons_append, quoScan_cons, if_neg h1, if_neg h2]
    by_cases h5 : c < 32
    · have hb : badC c = true := by simp [badC, h5, h3, h4]
      rw [if_pos h5]
      simp [hb]
    · have hb : badC c = false := by simp [badC, h5]
      rw [if_neg h5, ih]
      simp only [List.any_cons, hb, Bool.false_or]
      split <;> simp
      omega

theorem quoted_quote (l t : List UInt8) : quoted (quoteL l ++ t) = if l.any badC then none else some (l, (quoteL l).length) := by
  unfold quoted quoteL
  have : (34 :: (l.flatMap escL ++ [34]) ++ t).drop 1 = l.flatMap escL ++ 34 :: t := by simp
  rw [this, quoScan_quote]
  split <;> simp
  omega

theorem next_quote (lang : Int) (b : Bool) (l t : List UInt8) : nextLx lang b (quoteL l ++ t) = if l.any badC then ⟨4, [], [], 0⟩ else ⟨4, l, [], (quoteL l).length⟩ := by
  have hp : pk (quoteL l ++ t) 0 = 34 := rfl
  have ho : ownLx lang b (quoteL l ++ t) = none := by
    unfold ownLx
    rw [hp]
    split
    · rfl
    rw [if_neg (by decide), if_neg (by decide), if_neg (by simp [letB])]
  unfold nextLx
  rw [ho]
  simp only
  unfold plainLx
  rw [hp, if_neg (by decide), if_neg (by decide), if_pos rfl, quoted_quote]
  by_cases h : l.any badC = true
  · simp only [h]; rfl
  · have h' : l.any badC = false := by simpa using h
    simp only [h']; rfl

theorem skip_quote (l t : List UInt8) : skip false (quoteL l ++ t) = 0 := rfl

/-- A quoted text between two blanks: the lexeme that says it, or the fault at its place. -/
theorem lexAll_quote (lang : Int) (l : List UInt8) : lexAll lang (32 :: (quoteL l ++ [32])) =
    if l.any badC then ([], some 1) else ([⟨⟨4, l, [], (quoteL l).length⟩, 1, 1 + (quoteL l).length⟩], none) := by
  have hs : skip false (32 :: (quoteL l ++ [32])) = 1 := rfl
  have hq : 0 < (quoteL l).length := by simp [quoteL]
  unfold lexAll
  rw [toks, hs, if_neg (by simp)]
  have hd : (32 :: (quoteL l ++ [32])).drop 1 = quoteL l ++ [32] := rfl
  rw [hd, next_quote]
  by_cases h : l.any badC = true
  · simp only [h]; rfl
  · have h' : l.any badC = false := by simpa using h
    simp only [h', Bool.false_eq_true, if_false]
    rw [if_neg (by omega)]
    have hd2 : (quoteL l ++ [32]).drop (quoteL l).length = [32] := by simp
    have hend : ∀ q e, toks lang (32 :: (quoteL l ++ [32])).length q e [32] = ([], none) := by
      intro q e
      rw [show (32 :: (quoteL l ++ [32])).length = (quoteL l).length + 1 + 1 by simp, toks]
      rfl
    rw [hd2, hend]

end Go.Proofs.Ytaaomjpkgpjegaa
