/- The plain law of LexJoins. -/
import Derived.Test.YtaaomjpkgpjegaaG1
namespace Go.Proofs.Ytaaomjpkgpjegaa

theorem toks_last (lang : Int) (b : List UInt8) {r : List UInt8} {p F : Nat} {e : Int} (hs : r.length ≤ skip false r) (he : e ≤ p) (hF : r.length + b.length + 1 < F) :
    toks lang F p e (r ++ 10 :: b) = toks lang (b.length + 1) (p + r.length + 1) (-1) b := by
  have hs' : skip false r = r.length := Nat.le_antisymm (skip_le r false) hs
  obtain ⟨F, rfl⟩ : ∃ G, F = G + 1 := ⟨F - 1, by omega⟩
  have hk : skip false (r ++ 10 :: b) = r.length + 1 + skip false b := by rw [skip_more, if_pos hs']
  have hlen : (r ++ 10 :: b).length = r.length + 1 + b.length := by simp; omega
  have hd : (r ++ 10 :: b).drop (r.length + 1 + skip false b) = b.drop (skip false b) := by
    rw [← List.drop_drop, ← List.drop_drop, List.drop_left]
    rfl
  have f1 : decide (e = ((p + (r.length + 1 + skip false b) : Nat) : Int)) = false := decide_eq_false (by omega)
  have f2 : decide ((-1 : Int) = ((p + r.length + 1 + skip false b : Nat) : Int)) = false := decide_eq_false (by omega)
  rw [toks, toks, hk, hd, hlen, f1, f2]
  by_cases h1 : b.length ≤ skip false b
  · rw [if_pos h1, if_pos (by omega)]
  rw [if_neg h1, if_neg (by omega)]
  generalize nextLx lang false (b.drop (skip false b)) = x
  have e1 : p + (r.length + 1 + skip false b) = p + r.length + 1 + skip false b := by omega
  rw [e1]
  by_cases h2 : x.len = 0
  · rw [if_pos h2, if_pos h2]
  rw [if_neg h2, if_neg h2, toks_fuel lang F b.length _ _ _ (by simp only [List.length_drop]; omega) (by simp only [List.length_drop]; omega)]

theorem toks_join (lang : Int) (b : List UInt8) : ∀ (f p : Nat) (e : Int) (r : List UInt8), r.length < f → e ≤ p → ∀ F, r.length + b.length + 1 < F →
    (∀ x, (toks lang f p e r).2 = some x → (toks lang F p e (r ++ 10 :: b)).2 = some x) ∧
    ((toks lang f p e r).2 = none → toks lang F p e (r ++ 10 :: b) =
      ((toks lang f p e r).1 ++ (toks lang (b.length + 1) (p + r.length + 1) (-1) b).1, (toks lang (b.length + 1) (p + r.length + 1) (-1) b).2)) := by
  intro f
  induction f with
  | zero => intro p e r h; omega
  | succ f ih =>
    intro p e r h he F hF
    by_cases h1 : r.length ≤ skip false r
    · have h0 : toks lang (f + 1) p e r = ([], none) := by rw [toks, if_pos h1]
      rw [h0, toks_last lang b h1 he hF]
      exact ⟨(fun x hx => by cases hx), fun _ => rfl⟩
    obtain ⟨F, rfl⟩ : ∃ G, F = G + 1 := ⟨F - 1, by omega⟩
    have hk : skip false (r ++ 10 :: b) = skip false r := by rw [skip_more, if_neg (by omega)]
    have hlen : (r ++ 10 :: b).length = r.length + 1 + b.length := by simp; omega
    have hd : (r ++ 10 :: b).drop (skip false r) = r.drop (skip false r) ++ 10 :: b := drop_more2 _ (by omega)
    have hne : r.drop (skip false r) ≠ [] := by
      intro hn
      have := congrArg List.length hn
      rw [List.length_drop] at this
      simp at this
      omega
    rw [toks, toks, hk, hd, hlen, if_neg h1, if_neg (show ¬ r.length + 1 + b.length ≤ skip false r by omega), next_more b hne]
    have hle := nextLx_le (lang := lang) (blank := decide (e = ((p + skip false r : Nat) : Int))) (List.length_pos_iff.2 hne)
    generalize nextLx lang (decide (e = ((p + skip false r : Nat) : Int))) (r.drop (skip false r)) = x at *
    by_cases h2 : x.len = 0
    · rw [if_pos h2, if_pos h2]
      exact ⟨fun y hy => hy, fun hy => by cases hy⟩
    rw [if_neg h2, if_neg h2, drop_more2 _ hle]
    have hl2 : ((r.drop (skip false r)).drop x.len).length = r.length - skip false r - x.len := by simp only [List.length_drop]
    rw [List.length_drop] at hle
    have hend : endOf lang x (p + skip false r + x.len) ≤ ((p + skip false r + x.len : Nat) : Int) := by
      rcases endOf_lt lang x (p + skip false r + x.len) with h | h <;> rw [h] <;> omega
    obtain ⟨i1, i2⟩ := ih (p + skip false r + x.len) (endOf lang x (p + skip false r + x.len)) ((r.drop (skip false r)).drop x.len) (by omega) hend F (by omega)
    refine ⟨fun y hy => i1 y hy, fun hy => ?_⟩
    have e1 : p + skip false r + x.len + ((r.drop (skip false r)).drop x.len).length + 1 = p + r.length + 1 := by omega
    rw [i2 hy, e1]
    rfl

/-- A fault of the first text is a fault of both. -/
theorem join_bad {lang : Int} {a b : List UInt8} {x : Nat} (h : (lexAll lang a).2 = some x) : (lexAll lang (a ++ 10 :: b)).2 = some x :=
  (toks_join lang b (a.length + 1) 0 (-1) a (by omega) (by omega) ((a ++ 10 :: b).length + 1) (by rw [List.length_append, List.length_cons]; omega)).1 x h
/-- The lexemes of both, the second's moved; or the second's fault, moved. -/
theorem join_ok {lang : Int} {a b : List UInt8} (h : (lexAll lang a).2 = none) :
    lexAll lang (a ++ 10 :: b) = ((lexAll lang a).1 ++ (lexAll lang b).1.map (shift (a.length + 1)), (lexAll lang b).2.map (· + (a.length + 1))) := by
  have h1 := (toks_join lang b (a.length + 1) 0 (-1) a (by omega) (by omega) ((a ++ 10 :: b).length + 1) (by rw [List.length_append, List.length_cons]; omega)).2 h
  have h2 := toks_shift lang (a.length + 1) (b.length + 1) 0 (-1) (-1) b (.inr ⟨by omega, by omega⟩)
  have e : 0 + a.length + 1 = 0 + (a.length + 1) := by omega
  rw [e, h2] at h1
  exact h1

end Go.Proofs.Ytaaomjpkgpjegaa
