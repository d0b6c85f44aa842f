/- Plain facts on the lexemes of a text. -/
import Derived.Test.YtaaomjpkgpjegaaB2
namespace Go.Proofs.Ytaaomjpkgpjegaa

theorem ownLx_le {lang : Int} {blank : Bool} {r : List UInt8} {x : Lx} (h : ownLx lang blank r = some x) : x.len ≤ r.length := by
  unfold ownLx at h
  split at h
  · cases h
  split at h
  · rename_i h63
    split at h
    · injection h with h; subst h
      have := wordLen_le (r.drop 1)
      cases r with
      | nil => exact absurd h63 (by decide)
      | cons c t => simp at this ⊢; omega
    · cases h
  split at h
  · split at h
    · rename_i hp
      injection h with h; subst h
      exact ((iriLen_le r).2 hp).2
    · cases h
  split at h
  · split at h
    · split at h
      · rename_i h58 hw
        injection h with h; subst h
        have h1 := wordLen_le r
        have h2 := wordLen_le (r.drop (wordLen r + 1))
        rw [List.length_drop] at h2
        simp only
        omega
      · cases h
    · cases h
  · cases h

theorem plainLx_le {r : List UInt8} (hr : 0 < r.length) : (plainLx r).len ≤ r.length := by
  unfold plainLx
  split
  · exact wordLen_le r
  split
  · split
    · rename_i h
      have h1 := digLen_le r
      have h2 := digLen_le (r.drop (digLen r + 1))
      rw [List.length_drop] at h2
      simp only
      omega
    · exact digLen_le r
  split
  · cases hq : quoted r with
    | none => simp
    | some y => exact (quoted_le hr hq).2
  · exact markLen_le r

theorem nextLx_le {lang : Int} {blank : Bool} {r : List UInt8} (hr : 0 < r.length) : (nextLx lang blank r).len ≤ r.length := by
  unfold nextLx
  split
  · rename_i x h
    exact ownLx_le h
  · exact plainLx_le hr

theorem toks_end {lang : Int} {f q : Nat} {e : Int} {l : List UInt8} (hq : l.length ≤ q + skip false (l.drop q)) : toks lang f q e (l.drop q) = ([], none) := by
  cases f with
  | zero => rfl
  | succ f => rw [toks, if_pos (by rw [List.length_drop]; omega)]
theorem toks_bad {lang : Int} {f q m : Nat} {e : Int} {l : List UInt8} (hf : 0 < f) (hm : q + skip false (l.drop q) = m) (hlt : m < l.length) (hb : (nextLx lang (decide (e = (m : Int))) (l.drop m)).len = 0) :
    toks lang f q e (l.drop q) = ([], some m) := by
  obtain ⟨f, rfl⟩ : ∃ g, f = g + 1 := ⟨f - 1, by omega⟩
  have hd : (l.drop q).drop (skip false (l.drop q)) = l.drop m := by rw [List.drop_drop, hm]
  rw [toks, if_neg (by rw [List.length_drop]; omega), hd, hm, if_pos hb]
theorem toks_go {lang : Int} {f q m : Nat} {e : Int} {l : List UInt8} {x : Lx} (hm : q + skip false (l.drop q) = m) (hlt : m < l.length) (hx : nextLx lang (decide (e = (m : Int))) (l.drop m) = x) (hb : x.len ≠ 0) :
    toks lang (f + 1) q e (l.drop q) = (⟨x, m, m + x.len⟩ :: (toks lang f (m + x.len) (endOf lang x (m + x.len)) (l.drop (m + x.len))).1, (toks lang f (m + x.len) (endOf lang x (m + x.len)) (l.drop (m + x.len))).2) := by
  have hd : (l.drop q).drop (skip false (l.drop q)) = l.drop m := by rw [List.drop_drop, hm]
  rw [toks, if_neg (by rw [List.length_drop]; omega), hd, hm, hx, if_neg hb, List.drop_drop]

theorem toks_count (lang : Int) : ∀ (f q : Nat) (e : Int) (r : List UInt8), (toks lang f q e r).1.length ≤ r.length := by
  intro f
  induction f with
  | zero => intro q e r; simp [toks]
  | succ f ih =>
    intro q e r
    rw [toks]
    split
    · simp
    · rename_i h
      split
      · simp
      · rename_i h1
        simp only [List.length_cons]
        have h2 := ih (q + skip false r + (nextLx lang (decide (e = ((q + skip false r : Nat) : Int))) (r.drop (skip false r))).len)
            (endOf lang (nextLx lang (decide (e = ((q + skip false r : Nat) : Int))) (r.drop (skip false r)))
              (q + skip false r + (nextLx lang (decide (e = ((q + skip false r : Nat) : Int))) (r.drop (skip false r))).len))
            ((r.drop (skip false r)).drop (nextLx lang (decide (e = ((q + skip false r : Nat) : Int))) (r.drop (skip false r))).len)
        have h3 := nextLx_le (lang := lang) (blank := decide (e = ((q + skip false r : Nat) : Int))) (r := r.drop (skip false r)) (by rw [List.length_drop]; omega)
        rw [List.length_drop] at h3
        rw [List.length_drop, List.length_drop] at h2
        omega
theorem lexAll_count {lang : Int} {l : List UInt8} {ts : List Tok} {b : Option Nat} (h : lexAll lang l = (ts, b)) : ts.length ≤ l.length := by
  have := toks_count lang (l.length + 1) 0 (-1) l
  unfold lexAll at h
  rw [h] at this
  exact this

end Go.Proofs.Ytaaomjpkgpjegaa
