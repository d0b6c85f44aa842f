/- Plain facts on lists of bytes, for the lexer. -/
import Derived.RowKit
import Derived.Lib.Strings
import Derived.Lib.Bytealg
namespace Go.Proofs.Ytaaomjpkgpjegaa

def letB (c : Int) : Bool := decide (97 ≤ c ∧ c ≤ 122 ∨ 65 ≤ c ∧ c ≤ 90)
def digB (c : Int) : Bool := decide (48 ≤ c ∧ c ≤ 57)

/-- The byte at a place, as a number; 0 beyond the end. -/
def pk (l : List UInt8) (i : Nat) : Int := ((l.getD i 0).toNat : Int)

theorem pk_nonneg (l : List UInt8) (i : Nat) : 0 ≤ pk l i := Int.natCast_nonneg _
theorem pk_le (l : List UInt8) (i : Nat) : pk l i ≤ 255 := by
  unfold pk; have := (l.getD i 0).toNat_lt; omega
theorem pk_drop (l : List UInt8) (p i : Nat) : pk (l.drop p) i = pk l (p + i) := by
  unfold pk
  rw [List.getD_eq_getElem?_getD, List.getD_eq_getElem?_getD, List.getElem?_drop]
theorem pk_out {l : List UInt8} {i : Nat} (h : l.length ≤ i) : pk l i = 0 := by
  unfold pk
  rw [List.getD_eq_getElem?_getD, List.getElem?_eq_none h]
  rfl

/-- How many bytes at a list's head meet a test on numbers. -/
def tw (f : Int → Bool) (r : List UInt8) : Nat := (r.takeWhile fun c => f c.toNat).length

theorem tw_le (f : Int → Bool) (r : List UInt8) : tw f r ≤ r.length := by
  unfold tw
  induction r with
  | nil => simp
  | cons c r ih =>
    simp only [List.takeWhile_cons]
    split <;> simp <;> omega

theorem tw_step (f : Int → Bool) (h0 : f 0 = false) : ∀ (r : List UInt8) (k : Nat), k ≤ tw f r →
    (f (pk r k) = true → k + 1 ≤ tw f r) ∧ (f (pk r k) = false → k = tw f r) := by
  intro r
  induction r with
  | nil =>
    intro k hk
    have hz : tw f [] = 0 := rfl
    rw [hz] at hk
    obtain rfl : k = 0 := by omega
    have hp : pk [] 0 = 0 := rfl
    rw [hp, h0, hz]
    simp
  | cons c r ih =>
    intro k hk
    by_cases hc : f c.toNat = true
    · have ht : tw f (c :: r) = tw f r + 1 := by simp [tw, hc]
      rw [ht] at hk ⊢
      cases k with
      | zero =>
        have hp : pk (c :: r) 0 = c.toNat := rfl
        rw [hp, hc]
        simp
      | succ k =>
        have hp : pk (c :: r) (k + 1) = pk r k := rfl
        rw [hp]
        obtain ⟨a, b⟩ := ih k (by omega)
        exact ⟨fun h => by have := a h; omega, fun h => by have := b h; omega⟩
    · have hc' : f c.toNat = false := by simpa using hc
      have ht : tw f (c :: r) = 0 := by simp [tw, hc']
      rw [ht] at hk ⊢
      obtain rfl : k = 0 := by omega
      have hp : pk (c :: r) 0 = c.toNat := rfl
      rw [hp, hc']
      simp

/-- May a byte stand in a word, behind its head. -/
def wrdB (c : Int) : Bool := letB c || digB c || decide (c = 95)

/-- How long the word is that a list begins with; 0: none. -/
def wordLen (r : List UInt8) : Nat := if letB (pk r 0) then 1 + tw wrdB (r.drop 1) else 0

/-- How many digits a list begins with. -/
def digLen (r : List UInt8) : Nat := tw digB r

theorem drop_at {l : List UInt8} {i : Nat} (h : i < l.length) : ∃ c : UInt8, l.drop i = c :: l.drop (i + 1) ∧ pk l i = c.toNat := by
  refine ⟨l[i], List.drop_eq_getElem_cons h, ?_⟩
  unfold pk
  rw [List.getD_eq_getElem?_getD, List.getElem?_eq_getElem h]
  rfl

/-- A byte that may not stand in an IRI. -/
def iriBad (c : Int) : Bool := decide (c ≤ 32 ∨ c = 60 ∨ c = 62 ∨ c = 34)

/-- From so far on behind an IRI's first mark: how long it is; 0: it is none. -/
def iriScan : Nat → List UInt8 → Nat
  | _, [] => 0
  | i, c :: t => if (c.toNat : Int) = 62 ∧ 1 < i then i + 1 else if iriBad c.toNat then 0 else iriScan (i + 1) t

/-- How long the IRI is that a list begins with; 0: none. -/
def iriLen (r : List UInt8) : Nat := iriScan 1 (r.drop 1)

theorem iriScan_out {l : List UInt8} {i k : Nat} (h : l.length ≤ i) : iriScan k (l.drop i) = 0 := by
  rw [List.drop_of_length_le h]; rfl
theorem iriScan_end {l : List UInt8} {i k : Nat} (h : i < l.length) (h1 : pk l i = 62) (h2 : 1 < k) : iriScan k (l.drop i) = k + 1 := by
  obtain ⟨c, e, f⟩ := drop_at h
  rw [e, iriScan, if_pos ⟨by omega, h2⟩]
theorem iriScan_bad {l : List UInt8} {i k : Nat} (h : i < l.length) (h1 : pk l i = 62 → k ≤ 1) (h2 : iriBad (pk l i) = true) : iriScan k (l.drop i) = 0 := by
  obtain ⟨c, e, f⟩ := drop_at h
  rw [e, iriScan, if_neg (by rintro ⟨a, b⟩; have := h1 (by omega); omega), ← f, if_pos h2]
theorem iriScan_on {l : List UInt8} {i k : Nat} (h : i < l.length) (h2 : iriBad (pk l i) = false) : iriScan k (l.drop i) = iriScan (k + 1) (l.drop (i + 1)) := by
  obtain ⟨c, e, f⟩ := drop_at h
  rw [e, iriScan, if_neg (by rintro ⟨a, b⟩; unfold iriBad at h2; simp at h2; omega), ← f, h2]
  rfl

/-- The marks of two bytes; those of one. -/
def markTwos : List (List UInt8) := [[60, 61], [62, 61], [60, 62], [33, 61], [38, 38], [124, 124], [95, 58]]
def markOnes : List UInt8 := [40, 41, 91, 93, 123, 125, 44, 46, 58, 59, 124, 61, 60, 62, 43, 45, 42, 47, 37, 33]

/-- How long the mark is that a list begins with; 0: none. -/
def markLen (r : List UInt8) : Nat :=
  if markTwos.any (fun m => Lib.hasPrefix r m) then 2
  else match r with
    | [] => 0
    | c :: _ => if 0 ≤ Lib.indexByte markOnes c then 1 else 0

/-- The mark of two bytes that is tried so far on. -/
def mt (k : Nat) : List UInt8 := markTwos.getD k []

theorem markLen_two {r : List UInt8} (k : Nat) (hk : k < 7) (h : Lib.hasPrefix r (mt k) = true) : markLen r = 2 := by
  unfold markLen
  rw [if_pos]
  rw [List.any_eq_true]
  refine ⟨mt k, ?_, h⟩
  unfold mt
  rw [List.getD_eq_getElem?_getD, List.getElem?_eq_getElem (by simpa [markTwos] using hk)]
  exact List.getElem_mem _
theorem mt_snoc {r : List UInt8} {k : Nat} (h : ∀ j, j < k → Lib.hasPrefix r (mt j) = false) (h1 : Lib.hasPrefix r (mt k) = false) : ∀ j, j < k + 1 → Lib.hasPrefix r (mt j) = false := by
  intro j hj
  rcases Nat.lt_or_ge j k with hlt | hge
  · exact h j hlt
  · obtain rfl : j = k := by omega
    exact h1
theorem no_twos {r : List UInt8} (h : ∀ j, j < 7 → Lib.hasPrefix r (mt j) = false) : markTwos.any (fun m => Lib.hasPrefix r m) = false := by
  have h0 := h 0 (by omega); have h1 := h 1 (by omega); have h2 := h 2 (by omega); have h3 := h 3 (by omega)
  have h4 := h 4 (by omega); have h5 := h 5 (by omega); have h6 := h 6 (by omega)
  simp only [mt, markTwos, List.getD_cons_zero, List.getD_cons_succ] at h0 h1 h2 h3 h4 h5 h6
  simp only [markTwos, List.any_cons, List.any_nil, h0, h1, h2, h3, h4, h5, h6, Bool.or_false]
theorem markLen_nil : markLen [] = 0 := by rfl
theorem markLen_one {r : List UInt8} {c : UInt8} {t : List UInt8} (he : r = c :: t) (h : ∀ j, j < 7 → Lib.hasPrefix r (mt j) = false) : markLen r = if 0 ≤ Lib.indexByte markOnes c then 1 else 0 := by
  unfold markLen
  rw [no_twos h, he]
  rfl

end Go.Proofs.Ytaaomjpkgpjegaa
