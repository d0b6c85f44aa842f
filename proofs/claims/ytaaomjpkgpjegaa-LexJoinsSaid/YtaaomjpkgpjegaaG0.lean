/- Plain facts: a line's end behind a text moves no lexeme of it. -/
import Derived.Test.YtaaomjpkgpjegaaF1
namespace Go.Proofs.Ytaaomjpkgpjegaa

theorem pk_more {r : List UInt8} (t : List UInt8) {i : Nat} (h : i < r.length) : pk (r ++ t) i = pk r i := by
  unfold pk
  rw [List.getD_eq_getElem?_getD, List.getD_eq_getElem?_getD, List.getElem?_append_left h]
theorem tw_more (f : Int → Bool) (hf : f 10 = false) (b : List UInt8) : ∀ (r : List UInt8), tw f (r ++ 10 :: b) = tw f r := by
  intro r
  induction r with
  | nil => rw [List.nil_append, tw_cons]; have : f (UInt8.toNat 10) = false := hf; rw [this]; rfl
  | cons c t ih => rw [List.cons_append, tw_cons, tw_cons, ih]
theorem pk_nl (b : List UInt8) : pk (10 :: b) 0 = 10 := rfl
theorem wordLen_more (b : List UInt8) (r : List UInt8) : wordLen (r ++ 10 :: b) = wordLen r := by
  cases r with
  | nil => rfl
  | cons c t =>
    unfold wordLen
    rw [pk_more _ (by simp), List.cons_append, List.drop_succ_cons, List.drop_zero, List.drop_succ_cons, List.drop_zero, tw_more _ rfl]
theorem digLen_more (b : List UInt8) (r : List UInt8) : digLen (r ++ 10 :: b) = digLen r := tw_more _ rfl b r
theorem iriScan_more (b : List UInt8) : ∀ (r : List UInt8) (k : Nat), iriScan k (r ++ 10 :: b) = iriScan k r := by
  intro r
  induction r with
  | nil => intro k; simp [iriScan, iriBad]
  | cons c t ih => intro k; rw [List.cons_append, iriScan, iriScan, ih]
theorem iriLen_more (b : List UInt8) {r : List UInt8} (h : r ≠ []) : iriLen (r ++ 10 :: b) = iriLen r := by
  cases r with
  | nil => exact absurd rfl h
  | cons c t => unfold iriLen; rw [List.cons_append, List.drop_succ_cons, List.drop_zero, List.drop_succ_cons, List.drop_zero, iriScan_more]
theorem quoScan_more (b : List UInt8) : ∀ (t : List UInt8) (k : Nat) (acc : List UInt8), quoScan k acc (t ++ 10 :: b) = quoScan k acc t
  | [], k, acc => by rw [List.nil_append, quoScan_cons, if_neg (by decide), if_neg (by decide), if_pos (by decide)]; rfl
  | c :: t, k, acc => by
    rw [List.cons_append, quoScan_cons, quoScan_cons]
    by_cases h1 : c = 34
    · rw [if_pos h1, if_pos h1]
    rw [if_neg h1, if_neg h1]
    by_cases h2 : c = 92
    · rw [if_pos h2, if_pos h2]
      cases t with
      | nil => rfl
      | cons d t' =>
        simp only [List.cons_append]
        cases unesc d with
        | none => rfl
        | some e => exact quoScan_more b t' (k + 2) (acc ++ [e])
    rw [if_neg h2, if_neg h2, quoScan_more b t]
theorem quoted_more (b : List UInt8) {r : List UInt8} (h : r ≠ []) : quoted (r ++ 10 :: b) = quoted r := by
  cases r with
  | nil => exact absurd rfl h
  | cons c t => unfold quoted; rw [List.cons_append, List.drop_succ_cons, List.drop_zero, List.drop_succ_cons, List.drop_zero, quoScan_more]

theorem hasPre_more (b : List UInt8) {r m : List UInt8} (hm : m ∈ markTwos) : Lib.hasPrefix (r ++ 10 :: b) m = Lib.hasPrefix r m := by
  simp only [markTwos, List.mem_cons, List.not_mem_nil, or_false] at hm
  rcases r with _ | ⟨x, _ | ⟨y, t⟩⟩ <;> rcases hm with h | h | h | h | h | h | h <;> subst h <;> simp [Lib.hasPrefix, List.isPrefixOf]
theorem markLen_more (b : List UInt8) {r : List UInt8} (h : r ≠ []) : markLen (r ++ 10 :: b) = markLen r := by
  have e : markTwos.any (fun m => Lib.hasPrefix (r ++ 10 :: b) m) = markTwos.any (fun m => Lib.hasPrefix r m) := by
    rw [Bool.eq_iff_iff, List.any_eq_true, List.any_eq_true]
    exact ⟨fun ⟨m, hm, hp⟩ => ⟨m, hm, by rw [← hasPre_more b hm]; exact hp⟩, fun ⟨m, hm, hp⟩ => ⟨m, hm, by rw [hasPre_more b hm]; exact hp⟩⟩
  unfold markLen
  rw [e]
  cases r with
  | nil => exact absurd rfl h
  | cons c t => rfl

theorem take_more2 {r : List UInt8} (t : List UInt8) {k : Nat} (h : k ≤ r.length) : (r ++ t).take k = r.take k := List.take_append_of_le_length h
theorem drop_more2 {r : List UInt8} (t : List UInt8) {k : Nat} (h : k ≤ r.length) : (r ++ t).drop k = r.drop k ++ t := List.drop_append_of_le_length h
theorem pk_nl_end (b : List UInt8) (r : List UInt8) : pk (r ++ 10 :: b) r.length = 10 := by
  unfold pk
  rw [List.getD_eq_getElem?_getD, List.getElem?_append_right (Nat.le_refl _), Nat.sub_self]
  rfl
/-- A byte that is asked for by its own value, where it is neither a line's end nor nothing. -/
theorem pk_is {r : List UInt8} (b : List UInt8) {i : Nat} {z : Int} (h : i ≤ r.length) (h10 : z ≠ 10) (h0 : z ≠ 0) : pk (r ++ 10 :: b) i = z ↔ pk r i = z := by
  rcases Nat.lt_or_ge i r.length with hi | hi
  · rw [pk_more _ hi]
  · obtain rfl : i = r.length := by omega
    rw [pk_nl_end, pk_out (Nat.le_refl _)]
    exact ⟨fun e => absurd e.symm h10, fun e => absurd e.symm h0⟩

theorem own_more {lang : Int} {blank : Bool} {r : List UInt8} (b : List UInt8) (h : r ≠ []) : ownLx lang blank (r ++ 10 :: b) = ownLx lang blank r := by
  have hl : 0 < r.length := List.length_pos_iff.2 h
  have h1 : (r ++ 10 :: b).drop 1 = r.drop 1 ++ 10 :: b := drop_more2 _ hl
  have hw := wordLen_le r
  unfold ownLx
  rw [pk_more _ hl, h1, wordLen_more, iriLen_more b h, wordLen_more]
  by_cases hlang : lang ≠ 1
  · rw [if_pos hlang, if_pos hlang]
  rw [if_neg hlang, if_neg hlang]
  by_cases h63 : pk r 0 = 63
  · rw [if_pos h63, if_pos h63, take_more2 _ (wordLen_le _)]
  rw [if_neg h63, if_neg h63]
  by_cases h60 : pk r 0 = 60
  · rw [if_pos h60, if_pos h60]
    by_cases hp : 0 < iriLen r
    · have := (iriLen_le r).2 hp
      rw [if_pos hp, if_pos hp, take_more2 _ (by rw [List.length_drop]; omega)]
    · rw [if_neg hp, if_neg hp]
  rw [if_neg h60, if_neg h60]
  by_cases hc : pk r 0 = 58 ∨ letB (pk r 0) = true ∧ blank = false
  · rw [if_pos hc, if_pos hc]
    by_cases h58 : pk r (wordLen r) = 58
    · rw [if_pos h58, if_pos ((pk_is b hw (by decide) (by decide)).2 h58)]
      have hlt : wordLen r < r.length := by
        rcases Nat.lt_or_ge (wordLen r) r.length with h | h
        · exact h
        · rw [pk_out h] at h58; exact absurd h58 (by decide)
      rw [drop_more2 (k := wordLen r + 1) _ hlt, wordLen_more, take_more2 _ hw, take_more2 _ (wordLen_le _)]
    · rw [if_neg h58, if_neg (fun e => h58 ((pk_is b hw (by decide) (by decide)).1 e))]
  · rw [if_neg hc, if_neg hc]

theorem plain_more {r : List UInt8} (b : List UInt8) (h : r ≠ []) : plainLx (r ++ 10 :: b) = plainLx r := by
  have hl : 0 < r.length := List.length_pos_iff.2 h
  have hd := digLen_le r
  unfold plainLx
  rw [pk_more _ hl, wordLen_more, digLen_more, quoted_more b h, markLen_more b h, take_more2 _ (wordLen_le _), take_more2 _ hd]
  have hm : markLen r ≤ r.length := markLen_le r
  rw [take_more2 _ hm]
  by_cases h1 : letB (pk r 0) = true
  · rw [if_pos h1, if_pos h1]
  rw [if_neg h1, if_neg h1]
  by_cases h2 : digB (pk r 0) = true
  · rw [if_pos h2, if_pos h2]
    by_cases h46 : pk r (digLen r) = 46
    · have hlt : digLen r < r.length := by
        rcases Nat.lt_or_ge (digLen r) r.length with h | h
        · exact h
        · rw [pk_out h] at h46; exact absurd h46 (by decide)
      have hd2 := digLen_le (r.drop (digLen r + 1))
      rw [List.length_drop] at hd2
      rw [drop_more2 (k := digLen r + 1) _ hlt, digLen_more, take_more2 _ (by omega), pk_more _ hlt]
    · rw [if_neg (fun e => h46 ((pk_is b hd (by decide) (by decide)).1 e.1)), if_neg (fun e => h46 e.1)]
  · rw [if_neg h2, if_neg h2]

theorem next_more {lang : Int} {blank : Bool} {r : List UInt8} (b : List UInt8) (h : r ≠ []) : nextLx lang blank (r ++ 10 :: b) = nextLx lang blank r := by
  unfold nextLx
  rw [own_more b h, plain_more b h]

end Go.Proofs.Ytaaomjpkgpjegaa
