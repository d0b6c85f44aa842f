/- Plain facts: two texts with a line's end between. -/
import Derived.Test.YtaaomjpkgpjegaaG0
namespace Go.Proofs.Ytaaomjpkgpjegaa

theorem skip_more (b : List UInt8) : ∀ (r : List UInt8) (m : Bool), skip m (r ++ 10 :: b) = if skip m r = r.length then r.length + 1 + skip false b else skip m r := by
  intro r
  induction r with
  | nil => intro m; cases m <;> simp [skip, blankB]
  | cons c t ih =>
    intro m
    have hf := ih false
    have ht := ih true
    rw [List.cons_append, List.length_cons]
    cases m
    · rw [skip, skip]
      by_cases h1 : blankB c = true
      · rw [if_pos h1, if_pos h1, hf]
        split <;> split <;> omega
      rw [if_neg h1, if_neg h1]
      by_cases h2 : c = 35
      · rw [if_pos h2, if_pos h2, ht]
        split <;> split <;> omega
      rw [if_neg h2, if_neg h2, if_neg (by omega)]
    · rw [skip, skip]
      by_cases h1 : c = 10
      · rw [if_pos h1, if_pos h1, hf]
        split <;> split <;> omega
      rw [if_neg h1, if_neg h1, ht]
      split <;> split <;> omega

/-- A lexeme that stands d further on. -/
def shift (d : Nat) (t : Tok) : Tok := ⟨t.x, t.at_ + d, t.end_ + d⟩

theorem endOf_lt (lang : Int) (x : Lx) (q : Nat) : endOf lang x q = q ∨ endOf lang x q = -1 := by
  unfold endOf; split <;> simp
theorem endOf_shift (lang : Int) (x : Lx) (q d : Nat) : endOf lang x (q + d) = endOf lang x q + d ∨ (endOf lang x q < (q : Int) ∧ endOf lang x (q + d) < ((q + d : Nat) : Int)) := by
  unfold endOf
  by_cases h : x.kind = 7 ∧ x.text = [95, 58] ∧ lang = 1
  · rw [if_pos h, if_pos h]; left; omega
  · rw [if_neg h, if_neg h]; right; omega

theorem toks_shift (lang : Int) (d : Nat) : ∀ (f p : Nat) (e e' : Int) (r : List UInt8), (e' = e + d ∨ (e < p ∧ e' < ((p + d : Nat) : Int))) →
    toks lang f (p + d) e' r = ((toks lang f p e r).1.map (shift d), (toks lang f p e r).2.map (· + d)) := by
  intro f
  induction f with
  | zero => intro p e e' r _; rfl
  | succ f ih =>
    intro p e e' r h
    have hfl : decide (e' = ((p + d + skip false r : Nat) : Int)) = decide (e = ((p + skip false r : Nat) : Int)) := decide_eq_decide.2 (by omega)
    rw [toks, toks, hfl]
    by_cases h1 : r.length ≤ skip false r
    · rw [if_pos h1, if_pos h1]; rfl
    rw [if_neg h1, if_neg h1]
    generalize nextLx lang (decide (e = ((p + skip false r : Nat) : Int))) (r.drop (skip false r)) = x
    by_cases h2 : x.len = 0
    · rw [if_pos h2, if_pos h2]
      simp only [List.map_nil, Option.map_some]
      rw [show p + d + skip false r = p + skip false r + d by omega]
    rw [if_neg h2, if_neg h2]
    have e1 : p + d + skip false r + x.len = p + skip false r + x.len + d := by omega
    have e2 : p + d + skip false r = p + skip false r + d := by omega
    rw [e1, ih (p + skip false r + x.len) (endOf lang x (p + skip false r + x.len)) _ _ (endOf_shift lang x _ d), e2]
    rfl

theorem toks_fuel (lang : Int) : ∀ (f f' p : Nat) (e : Int) (r : List UInt8), r.length < f → r.length < f' → toks lang f p e r = toks lang f' p e r := by
  intro f
  induction f with
  | zero => intro f' p e r h; omega
  | succ f ih =>
    intro f' p e r h h'
    obtain ⟨f', rfl⟩ : ∃ g, f' = g + 1 := ⟨f' - 1, by omega⟩
    rw [toks, toks]
    by_cases h1 : r.length ≤ skip false r
    · rw [if_pos h1, if_pos h1]
    rw [if_neg h1, if_neg h1]
    generalize nextLx lang (decide (e = ((p + skip false r : Nat) : Int))) (r.drop (skip false r)) = x
    by_cases h2 : x.len = 0
    · rw [if_pos h2, if_pos h2]
    rw [if_neg h2, if_neg h2, ih f' _ _ _ (by simp only [List.length_drop]; omega) (by simp only [List.length_drop]; omega)]

end Go.Proofs.Ytaaomjpkgpjegaa
