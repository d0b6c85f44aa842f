/- Plain facts on quoted texts, for the lexer. -/
import Derived.Test.YtaaomjpkgpjegaaA0
namespace Go.Proofs.Ytaaomjpkgpjegaa

/-- What a byte behind a backslash stands for. -/
def unesc (d : UInt8) : Option UInt8 := if d = 34 then some 34 else if d = 92 then some 92 else if d = 110 then some 10 else if d = 116 then some 9 else none

/-- From so far on behind a quoted text's first mark: what it says, how long it is. -/
def quoScan : Nat → List UInt8 → List UInt8 → Option (List UInt8 × Nat)
  | _, _, [] => none
  | i, acc, c :: t =>
    if c = 34 then some (acc, i + 1)
    else if c = 92 then
      match t with
      | [] => none
      | d :: t' => match unesc d with
        | some e => quoScan (i + 2) (acc ++ [e]) t'
        | none => none
    else if c < 32 then none
    else quoScan (i + 1) (acc ++ [c]) t

/-- What the quoted text says that a list begins with, and how long it is. -/
def quoted (r : List UInt8) : Option (List UInt8 × Nat) := quoScan 1 [] (r.drop 1)

theorem u8_of {c : UInt8} {n : Nat} (hn : n < 256) (h : (c.toNat : Int) = n) : c = UInt8.ofNat n := by
  apply UInt8.toNat_inj.1
  rw [UInt8.toNat_ofNat']
  have : c.toNat = n := by omega
  rw [this]; omega

theorem quoScan_cons (k : Nat) (acc : List UInt8) (c : UInt8) (t : List UInt8) : quoScan k acc (c :: t) =
    if c = 34 then some (acc, k + 1)
    else if c = 92 then
      match t with
      | [] => none
      | d :: t' => match unesc d with
        | some e => quoScan (k + 2) (acc ++ [e]) t'
        | none => none
    else if c < 32 then none
    else quoScan (k + 1) (acc ++ [c]) t := by
  cases t <;> rfl

theorem quo_out {l : List UInt8} {i k : Nat} {acc : List UInt8} (h : l.length ≤ i) : quoScan k acc (l.drop i) = none := by
  rw [List.drop_of_length_le h, quoScan]
theorem quo_end {l : List UInt8} {i k : Nat} {acc : List UInt8} (h : i < l.length) (h1 : pk l i = 34) : quoScan k acc (l.drop i) = some (acc, k + 1) := by
  obtain ⟨c, e, f⟩ := drop_at h
  obtain rfl : c = 34 := u8_of (n := 34) (by omega) (by omega)
  rw [e, quoScan_cons, if_pos rfl]
theorem quo_bad {l : List UInt8} {i k : Nat} {acc : List UInt8} (h : i < l.length) (h1 : pk l i < 32) : quoScan k acc (l.drop i) = none := by
  obtain ⟨c, e, f⟩ := drop_at h
  have a : c ≠ 34 := by rintro rfl; rw [f] at h1; revert h1; decide
  have b : c ≠ 92 := by rintro rfl; rw [f] at h1; revert h1; decide
  have d : c < 32 := by rw [UInt8.lt_iff_toNat_lt]; rw [f] at h1; simp; omega
  rw [e, quoScan_cons, if_neg a, if_neg b, if_pos d]
theorem quo_on {l : List UInt8} {i k : Nat} {acc : List UInt8} {c : UInt8} (h : i < l.length) (hc : pk l i = c.toNat) (h1 : 32 ≤ pk l i) (h2 : pk l i ≠ 34) (h3 : pk l i ≠ 92) :
    quoScan k acc (l.drop i) = quoScan (k + 1) (acc ++ [c]) (l.drop (i + 1)) := by
  obtain ⟨c', e, f⟩ := drop_at h
  obtain rfl : c' = c := UInt8.toNat_inj.1 (by omega)
  have a : c' ≠ 34 := by rintro rfl; exact h2 (f.trans rfl)
  have b : c' ≠ 92 := by rintro rfl; exact h3 (f.trans rfl)
  have d : ¬ c' < 32 := by rw [UInt8.lt_iff_toNat_lt]; rw [f] at h1; simp; omega
  rw [e, quoScan_cons, if_neg a, if_neg b, if_neg d]
theorem quo_esc {l : List UInt8} {i k : Nat} {acc : List UInt8} {d e : UInt8} (h1 : pk l i = 92) (h : i + 1 < l.length) (hd : pk l (i + 1) = d.toNat) (he : unesc d = some e) :
    quoScan k acc (l.drop i) = quoScan (k + 2) (acc ++ [e]) (l.drop (i + 2)) := by
  obtain ⟨c, e1, f⟩ := drop_at (show i < l.length by omega)
  obtain ⟨d', e2, g⟩ := drop_at h
  obtain rfl : d' = d := UInt8.toNat_inj.1 (by omega)
  obtain rfl : c = 92 := u8_of (n := 92) (by omega) (by omega)
  rw [e1, e2, quoScan_cons, if_neg (by decide), if_pos rfl]
  simp only [he]
theorem quo_esc_out {l : List UInt8} {i k : Nat} {acc : List UInt8} (hi : i < l.length) (h1 : pk l i = 92) (h : l.length ≤ i + 1) : quoScan k acc (l.drop i) = none := by
  obtain ⟨c, e1, f⟩ := drop_at hi
  obtain rfl : c = 92 := u8_of (n := 92) (by omega) (by omega)
  rw [e1, List.drop_of_length_le h, quoScan_cons, if_neg (by decide), if_pos rfl]
theorem quo_esc_bad {l : List UInt8} {i k : Nat} {acc : List UInt8} {d : UInt8} (h1 : pk l i = 92) (h : i + 1 < l.length) (hd : pk l (i + 1) = d.toNat) (he : unesc d = none) :
    quoScan k acc (l.drop i) = none := by
  obtain ⟨c, e1, f⟩ := drop_at (show i < l.length by omega)
  obtain ⟨d', e2, g⟩ := drop_at h
  obtain rfl : d' = d := UInt8.toNat_inj.1 (by omega)
  obtain rfl : c = 92 := u8_of (n := 92) (by omega) (by omega)
  rw [e1, e2, quoScan_cons, if_neg (by decide), if_pos rfl]
  simp only [he]

/-- The byte that stands for a backslash's fellow, where it has one. -/
theorem esc_index (d : UInt8) : (unesc d = none ∧ Lib.indexByte [34, 92, 110, 116] d = -1) ∨ (unesc d = some 34 ∧ Lib.indexByte [34, 92, 110, 116] d = 0) ∨
    (unesc d = some 92 ∧ Lib.indexByte [34, 92, 110, 116] d = 1) ∨ (unesc d = some 10 ∧ Lib.indexByte [34, 92, 110, 116] d = 2) ∨ (unesc d = some 9 ∧ Lib.indexByte [34, 92, 110, 116] d = 3) := by
  by_cases h1 : d = 34
  · subst h1; exact .inr (.inl ⟨rfl, rfl⟩)
  by_cases h2 : d = 92
  · subst h2; exact .inr (.inr (.inl ⟨rfl, rfl⟩))
  by_cases h3 : d = 110
  · subst h3; exact .inr (.inr (.inr (.inl ⟨rfl, rfl⟩)))
  by_cases h4 : d = 116
  · subst h4; exact .inr (.inr (.inr (.inr ⟨rfl, rfl⟩)))
  refine .inl ⟨by unfold unesc; rw [if_neg h1, if_neg h2, if_neg h3, if_neg h4], ?_⟩
  simp [Lib.indexByte, Ne.symm h1, Ne.symm h2, Ne.symm h3, Ne.symm h4]

end Go.Proofs.Ytaaomjpkgpjegaa
