/- Plain facts: a lexeme read alone is itself. -/
import Derived.Test.YtaaomjpkgpjegaaB3
namespace Go.Proofs.Ytaaomjpkgpjegaa

theorem pk_take {l : List UInt8} {k i : Nat} (h : i < k) : pk (l.take k) i = pk l i := by
  unfold pk
  rw [List.getD_eq_getElem?_getD, List.getD_eq_getElem?_getD, List.getElem?_take_of_lt h]
theorem pk_take_out {l : List UInt8} {k i : Nat} (h : k ≤ i) : pk (l.take k) i = 0 := pk_out (by rw [List.length_take]; omega)
theorem tw_cons (f : Int → Bool) (c : UInt8) (t : List UInt8) : tw f (c :: t) = if f c.toNat then 1 + tw f t else 0 := by
  unfold tw
  rw [List.takeWhile_cons]
  split <;> simp [Nat.add_comm]
theorem tw_take (f : Int → Bool) : ∀ (r : List UInt8) (k : Nat), tw f r ≤ k → tw f (r.take k) = tw f r := by
  intro r
  induction r with
  | nil => intro k _; simp
  | cons c t ih =>
    intro k h
    rw [tw_cons] at h
    cases k with
    | zero =>
      rw [tw_cons]
      split at h
      · omega
      · rename_i h1; simp [h1, tw]
    | succ k =>
      rw [List.take_succ_cons, tw_cons, tw_cons]
      split
      · rename_i h1
        rw [if_pos h1] at h
        rw [ih k (by omega)]
      · rfl
theorem wordLen_take {r : List UInt8} {k : Nat} (h : wordLen r ≤ k) : wordLen (r.take k) = wordLen r := by
  cases k with
  | zero =>
    have : wordLen r = 0 := by omega
    rw [this]; rfl
  | succ k =>
    unfold wordLen at h ⊢
    rw [pk_take (by omega)]
    split
    · rename_i h1
      rw [if_pos h1] at h
      rw [List.drop_take, tw_take _ _ _ (by omega)]
    · rfl
theorem digLen_take {r : List UInt8} {k : Nat} (h : digLen r ≤ k) : digLen (r.take k) = digLen r := tw_take _ _ _ h
theorem iriScan_take : ∀ (t : List UInt8) (k : Nat), 0 < iriScan k t → k < iriScan k t ∧ iriScan k (t.take (iriScan k t - k)) = iriScan k t := by
  intro t
  induction t with
  | nil => intro k h; simp [iriScan] at h
  | cons c t ih =>
    intro k h
    rw [iriScan] at h ⊢
    split
    · rename_i h1
      have : k + 1 - k = 0 + 1 := by omega
      rw [this, List.take_succ_cons, iriScan, if_pos h1]
      exact ⟨by omega, rfl⟩
    · rename_i h1
      rw [if_neg h1] at h
      split
      · rename_i h2; rw [if_pos h2] at h; omega
      · rename_i h2
        rw [if_neg h2] at h
        obtain ⟨h3, h4⟩ := ih (k + 1) h
        have : iriScan (k + 1) t - k = (iriScan (k + 1) t - (k + 1)) + 1 := by omega
        rw [this, List.take_succ_cons, iriScan, if_neg h1, if_neg h2]
        exact ⟨by omega, h4⟩
theorem iriLen_take {r : List UInt8} (h : 0 < iriLen r) : iriLen (r.take (iriLen r)) = iriLen r := by
  unfold iriLen at h ⊢
  rw [List.drop_take]
  exact (iriScan_take _ _ h).2

theorem quoScan_take : ∀ (t : List UInt8) (k : Nat) (acc s : List UInt8) (n : Nat), quoScan k acc t = some (s, n) → k < n ∧ quoScan k acc (t.take (n - k)) = some (s, n)
  | [], k, acc, s, n, h => by cases h
  | c :: t, k, acc, s, n, h => by
    rw [quoScan_cons] at h
    by_cases h1 : c = 34
    · rw [if_pos h1] at h
      injection h with h
      injection h with h2 h3
      subst h2 h3
      have : k + 1 - k = 0 + 1 := by omega
      rw [this, List.take_succ_cons, quoScan_cons, if_pos h1]
      exact ⟨by omega, rfl⟩
    rw [if_neg h1] at h
    by_cases h2 : c = 92
    · rw [if_pos h2] at h
      cases t with
      | nil => cases h
      | cons d t' =>
        simp only at h
        cases he : unesc d with
        | none => rw [he] at h; cases h
        | some e =>
          rw [he] at h
          obtain ⟨h3, h4⟩ := quoScan_take t' (k + 2) (acc ++ [e]) s n h
          have : n - k = (n - (k + 2)) + 1 + 1 := by omega
          rw [this, List.take_succ_cons, List.take_succ_cons, quoScan_cons, if_neg h1, if_pos h2]
          simp only [he]
          exact ⟨by omega, h4⟩
    rw [if_neg h2] at h
    by_cases h3 : c < 32
    · rw [if_pos h3] at h; cases h
    · rw [if_neg h3] at h
      obtain ⟨h4, h5⟩ := quoScan_take t (k + 1) (acc ++ [c]) s n h
      have : n - k = (n - (k + 1)) + 1 := by omega
      rw [this, List.take_succ_cons, quoScan_cons, if_neg h1, if_neg h2, if_neg h3]
      exact ⟨by omega, h5⟩
theorem quoted_take {r s : List UInt8} {n : Nat} (h : quoted r = some (s, n)) : quoted (r.take n) = some (s, n) := by
  unfold quoted at h ⊢
  rw [List.drop_take]
  exact (quoScan_take _ _ _ _ _ h).2

theorem mark_cases (r : List UInt8) : markLen r = 0 ∨ (∃ a t, r = a :: t ∧ markLen r = 1 ∧ markLen [a] = 1) ∨ (∃ a b t, r = a :: b :: t ∧ markLen r = 2 ∧ [a, b] ∈ markTwos ∧ markLen [a, b] = 2) := by
  by_cases h : markTwos.any (fun m => Lib.hasPrefix r m) = true
  · right; right
    rw [List.any_eq_true] at h
    obtain ⟨m, hm, hp⟩ := h
    obtain ⟨x, y, rfl⟩ : ∃ x y, m = [x, y] := by
      simp only [markTwos, List.mem_cons, List.not_mem_nil, or_false] at hm
      rcases hm with h | h | h | h | h | h | h <;> exact ⟨_, _, h⟩
    have h2 : ∃ t, r = x :: y :: t := by
      have : ([x, y] : List UInt8) <+: r := by simpa [Lib.hasPrefix] using hp
      obtain ⟨t, ht⟩ := this
      exact ⟨t, ht.symm⟩
    obtain ⟨t, rfl⟩ := h2
    have e : ∀ t, markLen (x :: y :: t) = 2 := by
      intro t
      unfold markLen
      rw [if_pos]
      rw [List.any_eq_true]
      exact ⟨[x, y], hm, by simp [Lib.hasPrefix]⟩
    exact ⟨x, y, t, rfl, e t, hm, e []⟩
  · cases r with
    | nil => left; rfl
    | cons a t =>
      have e1 : markLen (a :: t) = if 0 ≤ Lib.indexByte markOnes a then 1 else 0 := by
        unfold markLen; rw [if_neg h]
      have e2 : markLen [a] = if 0 ≤ Lib.indexByte markOnes a then 1 else 0 := by
        unfold markLen
        rw [if_neg (by simp [markTwos, Lib.hasPrefix, List.isPrefixOf])]
      by_cases h0 : 0 ≤ Lib.indexByte markOnes a
      · right; left
        rw [if_pos h0] at e1 e2
        exact ⟨a, t, rfl, e1, e2⟩
      · left
        rw [e1, if_neg h0]
theorem markLen_take (r : List UInt8) : markLen (r.take (markLen r)) = markLen r := by
  rcases mark_cases r with h | ⟨a, t, rfl, h, h1⟩ | ⟨a, b, t, rfl, h, _, h1⟩
  · rw [h]; rfl
  · rw [h]; exact h1
  · rw [h]; exact h1

end Go.Proofs.Ytaaomjpkgpjegaa
