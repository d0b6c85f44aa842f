/- What a lexeme is: plain functions on lists of bytes. -/
import Derived.Test.YtaaomjpkgpjegaaB0
namespace Go.Proofs.Ytaaomjpkgpjegaa

/-- A lexeme read at a list's head: its kind, its texts, how long it is (0: there is none). -/
structure Lx where
  kind : Nat
  text : List UInt8
  extra : List UInt8
  len : Nat

/-- What S alone reads. -/
def ownLx (lang : Int) (blank : Bool) (r : List UInt8) : Option Lx :=
  if lang ≠ 1 then none
  else if pk r 0 = 63 then
    if 0 < wordLen (r.drop 1) then some ⟨1, (r.drop 1).take (wordLen (r.drop 1)), [], wordLen (r.drop 1) + 1⟩ else none
  else if pk r 0 = 60 then
    if 0 < iriLen r then some ⟨5, (r.drop 1).take (iriLen r - 2), [], iriLen r⟩ else none
  else if pk r 0 = 58 ∨ letB (pk r 0) = true ∧ blank = false then
    if pk r (wordLen r) = 58 then
      if 0 < wordLen (r.drop (wordLen r + 1)) then
        some ⟨6, r.take (wordLen r), (r.drop (wordLen r + 1)).take (wordLen (r.drop (wordLen r + 1))), wordLen r + 1 + wordLen (r.drop (wordLen r + 1))⟩
      else none
    else none
  else none

/-- The lexeme at a list's head. -/
def plainLx (r : List UInt8) : Lx :=
  if letB (pk r 0) = true then ⟨0, r.take (wordLen r), [], wordLen r⟩
  else if digB (pk r 0) = true then
    if pk r (digLen r) = 46 ∧ 0 < digLen (r.drop (digLen r + 1)) then
      ⟨3, r.take (digLen r + (1 + digLen (r.drop (digLen r + 1)))), [], digLen r + (1 + digLen (r.drop (digLen r + 1)))⟩
    else ⟨2, r.take (digLen r), [], digLen r⟩
  else if pk r 0 = 34 then
    match quoted r with
    | some (t, n) => ⟨4, t, [], n⟩
    | none => ⟨4, [], [], 0⟩
  else ⟨7, r.take (markLen r), [], markLen r⟩

def nextLx (lang : Int) (blank : Bool) (r : List UInt8) : Lx :=
  match ownLx lang blank r with
  | some x => x
  | none => plainLx r

theorem wordLen_le (r : List UInt8) : wordLen r ≤ r.length := by
  unfold wordLen
  split
  · rename_i h
    cases r with
    | nil => exact absurd h (by decide)
    | cons c t => have := tw_le wrdB t; simp; omega
  · omega
theorem digLen_le (r : List UInt8) : digLen r ≤ r.length := tw_le _ r
theorem iriScan_le : ∀ (t : List UInt8) (k : Nat), iriScan k t ≤ k + t.length ∧ (0 < iriScan k t → k < iriScan k t ∧ 2 < iriScan k t) := by
  intro t
  induction t with
  | nil => intro k; simp [iriScan]
  | cons c t ih =>
    intro k
    simp only [iriScan]
    split
    · simp; omega
    · split
      · simp
      · have := ih (k + 1); simp; omega
theorem iriLen_le (r : List UInt8) : iriLen r ≤ r.length + 1 ∧ (0 < iriLen r → 2 < iriLen r ∧ iriLen r ≤ r.length) := by
  unfold iriLen
  have h := iriScan_le (r.drop 1) 1
  cases r with
  | nil => simp [iriScan]
  | cons c t => simp at h ⊢; omega
theorem quoScan_le : ∀ (n : Nat) (t : List UInt8) (k : Nat) (acc : List UInt8) (x : List UInt8 × Nat), t.length ≤ n → quoScan k acc t = some x → k < x.2 ∧ x.2 ≤ k + t.length := by
  intro n
  induction n with
  | zero =>
    intro t k acc x h hx
    obtain rfl : t = [] := List.eq_nil_of_length_eq_zero (by omega)
    simp [quoScan] at hx
  | succ n ih =>
    intro t k acc x h hx
    cases t with
    | nil => simp [quoScan] at hx
    | cons c t =>
      rw [quoScan_cons] at hx
      simp only [List.length_cons] at h ⊢
      split at hx
      · simp at hx; subst hx; simp
      · split at hx
        · cases t with
          | nil => simp at hx
          | cons d t' =>
            simp only [List.length_cons] at h ⊢
            cases hu : unesc d with
            | none => simp [hu] at hx
            | some e =>
              simp only [hu] at hx
              have := ih t' _ _ _ (by omega) hx
              omega
        · split at hx
          · simp at hx
          · have := ih t _ _ _ (by omega) hx
            omega
theorem quoted_le {r : List UInt8} {x : List UInt8 × Nat} (hr : 0 < r.length) (h : quoted r = some x) : 1 < x.2 ∧ x.2 ≤ r.length := by
  unfold quoted at h
  have := quoScan_le _ _ _ _ _ (Nat.le_refl _) h
  cases r with
  | nil => simp at hr
  | cons c t => simp at this ⊢; omega
theorem twos_len (k : Nat) (hk : k < 7) : (mt k).length = 2 := by
  have : k = 0 ∨ k = 1 ∨ k = 2 ∨ k = 3 ∨ k = 4 ∨ k = 5 ∨ k = 6 := by omega
  rcases this with rfl | rfl | rfl | rfl | rfl | rfl | rfl <;> rfl
theorem markLen_le (r : List UInt8) : markLen r ≤ r.length := by
  unfold markLen
  split
  · rename_i h
    rw [List.any_eq_true] at h
    obtain ⟨m, hm, hp⟩ := h
    have h2 : m.length = 2 := by
      simp only [markTwos, List.mem_cons, List.not_mem_nil, or_false] at hm
      rcases hm with rfl | rfl | rfl | rfl | rfl | rfl | rfl <;> rfl
    have := List.IsPrefix.length_le (List.isPrefixOf_iff_prefix.1 hp)
    omega
  · split
    · simp
    · split <;> simp

end Go.Proofs.Ytaaomjpkgpjegaa
