/- The document's own function on one lexeme, at every byte; what a blank's mark ahead of it changes. -/
import Derived.Test.YtaaomjpkgpjegaaI0
import Derived.Test.YtaaomjpkgpjegaaI1
import Derived.Test.YtaaomjpkgpjegaaI2
import Derived.Test.YtaaomjpkgpjegaaI3
import Derived.Test.YtaaomjpkgpjegaaI5
import Derived.Test.YtaaomjpkgpjegaaI6
import Derived.Test.YtaaomjpkgpjegaaI7
import Derived.Test.YtaaomjpkgpjegaaJ0
import Derived.Test.YtaaomjpkgpjegaaJ1
import Derived.Test.YtaaomjpkgpjegaaJ2
import Derived.Test.YtaaomjpkgpjegaaJ3
import Derived.Test.YtaaomjpkgpjegaaB3
namespace Go.Proofs.Ytaaomjpkgpjegaa
open Go Go.RowKit

theorem zero_of_not {n : Nat} (h : ¬ 0 < n) : n = 0 := by omega

theorem one_any (s : ByteArray) (p : Nat) (lang : Int) (w : World) (hs : s.size ≤ 100000) (hp : p < s.size) :
    Calls Try.prog 31 #[.int .i64 lang, .string s, .int .i64 p] w fun e w' => (∃ v, e = .returned v ∧ OneIs (nextLx lang false (s.data.toList.drop p)) p v) ∧ Below w.heap.size w w' := by
  cases hD : digB (s[p].toNat : Int) with
  | true =>
    obtain ⟨z, hz⟩ : ∃ z, p + digLen (s.data.toList.drop p) = z := ⟨_, rfl⟩
    by_cases hd : pk (s.data.toList.drop p) (z - p) = 46 ∧ 0 < digLen (s.data.toList.drop (z + 1))
    · obtain ⟨h46, h0⟩ := hd
      have hzs : z < s.size := by
        rcases Nat.lt_or_ge z s.size with h | h
        · exact h
        · rw [pk_past (by omega) h] at h46
          exact absurd h46 (by decide)
      rw [pk_here (by omega) hzs] at h46
      have hz2 : z + 1 < s.size := by
        rcases Nat.lt_or_ge (z + 1) s.size with h | h
        · exact h
        · rw [List.drop_of_length_le (by simpa using h)] at h0
          exact absurd h0 (by decide)
      have hd2 : digB (s[z + 1].toNat : Int) = true := by
        rw [← pk_first hz2]
        cases hb : digB (pk (s.data.toList.drop (z + 1)) 0) with
        | true => rfl
        | false =>
          have := (tw_step digB rfl (s.data.toList.drop (z + 1)) 0 (Nat.zero_le _)).2 hb
          unfold digLen at h0
          omega
      exact one_dec s p lang w hs hp hD z hz hz2 h46 hd2
    · exact one_int s p lang w hs hp hD z hz hd
  | false =>
    by_cases h34 : (s[p].toNat : Int) = 34
    · exact one_quo s p lang w hs hp h34
    by_cases hl : lang = 1
    · subst hl
      cases hL : letB (s[p].toNat : Int) with
      | true =>
        obtain ⟨z, hz⟩ : ∃ z, p + wordLen (s.data.toList.drop p) = z := ⟨_, rfl⟩
        by_cases hd : pk (s.data.toList.drop p) (z - p) = 58 ∧ 0 < wordLen (s.data.toList.drop (z + 1))
        · obtain ⟨h58, h0⟩ := hd
          have hzs : z < s.size := by
            rcases Nat.lt_or_ge z s.size with h | h
            · exact h
            · rw [pk_past (by omega) h] at h58
              exact absurd h58 (by decide)
          rw [pk_here (by omega) hzs] at h58
          exact one_name s p w hs hp (.inl hL) z hz hzs h58 h0
        · exact one_sword s p w hs hp hL z hz hd
      | false =>
        by_cases h63 : (s[p].toNat : Int) = 63
        · by_cases h0 : 0 < wordLen (s.data.toList.drop (p + 1))
          · exact one_var s p w hs hp h63 h0
          · exact one_mark63 s p w hs hp h63 (zero_of_not h0)
        by_cases h58 : (s[p].toNat : Int) = 58
        · by_cases h0 : 0 < wordLen (s.data.toList.drop (p + 1))
          · exact one_name s p w hs hp (.inr h58) p (by rw [wordLen_no (by rw [pk_first hp]; exact hL)]; rfl) hp h58 h0
          · exact one_mark58 s p w hs hp h58 (zero_of_not h0)
        by_cases h60 : (s[p].toNat : Int) = 60
        · by_cases h0 : 0 < iriLen (s.data.toList.drop p)
          · exact one_iri s p w hs hp h60 h0
          · exact one_mark60 s p w hs hp h60 (zero_of_not h0)
        exact one_markS s p w hs hp hL hD h34 h63 h58 h60
    · cases hL : letB (s[p].toNat : Int) with
      | true => exact one_word s p lang w hs hp hl hL
      | false => exact one_mark s p lang w hs hp hL hD h34 hl

/-- Behind a blank's mark a letter begins a word, and nothing else changes. -/
theorem next_blank_letter {r : List UInt8} (h : letB (pk r 0) = true) : nextLx 1 true r = ⟨0, r.take (wordLen r), [], wordLen r⟩ := by
  have h1 := let_not h
  have hown : ownLx 1 true r = none := by
    unfold ownLx
    rw [if_neg (by decide), if_neg h1.1, if_neg h1.2.1, if_neg (by rintro (h | ⟨_, h⟩); exact h1.2.2.1 h; cases h)]
  unfold nextLx
  rw [hown]
  unfold plainLx
  rw [if_pos h]
theorem next_blank_other {r : List UInt8} {lang : Int} (h : letB (pk r 0) = false) : nextLx lang true r = nextLx lang false r := by
  have : ownLx lang true r = ownLx lang false r := by
    unfold ownLx
    simp [h]
  unfold nextLx
  rw [this]
theorem next_letter_len {r : List UInt8} {lang : Int} (h : letB (pk r 0) = true) : (nextLx lang false r).len ≠ 0 := by
  unfold nextLx
  cases ho : ownLx lang false r with
  | some x => have := ownLx_pos ho; simp; omega
  | none =>
    show (plainLx r).len ≠ 0
    unfold plainLx
    rw [if_pos h]
    have := pos_word' h
    simp
    omega

/-- Where the mark of a blank has ended just now, by the lexemes so far. -/
def eOf (lang : Int) (pre : List Tok) : Int :=
  match pre.getLast? with
  | none => -1
  | some t => endOf lang t.x t.end_
theorem eOf_snoc (lang : Int) (pre : List Tok) (t : Tok) : eOf lang (pre ++ [t]) = endOf lang t.x t.end_ := by simp [eOf]

/-- Does a blank's mark stand right ahead, and a letter here? -/
def overB (lang : Int) (pre : List Tok) (a : Nat) (r : List UInt8) : Bool := decide (eOf lang pre = (a : Int)) && letB (pk r 0)

theorem eOf_lang {lang : Int} {pre : List Tok} {a : Nat} (h : eOf lang pre = (a : Int)) : lang = 1 := by
  unfold eOf at h
  cases hl : pre.getLast? with
  | none => rw [hl] at h; simp at h
  | some t =>
    rw [hl] at h
    unfold endOf at h
    by_cases hc : t.x.kind = 7 ∧ t.x.text = [95, 58] ∧ lang = 1
    · exact hc.2.2
    · simp only [if_neg hc] at h; omega
theorem over_yes {lang : Int} {pre : List Tok} {a : Nat} {r : List UInt8} (h : overB lang pre a r = true) : lang = 1 ∧ letB (pk r 0) = true ∧ nextLx lang (decide (eOf lang pre = (a : Int))) r = ⟨0, r.take (wordLen r), [], wordLen r⟩ := by
  unfold overB at h
  rw [Bool.and_eq_true] at h
  obtain ⟨h1, h2⟩ := h
  have hl := eOf_lang (of_decide_eq_true h1)
  subst hl
  exact ⟨rfl, h2, by rw [h1]; exact next_blank_letter h2⟩
theorem over_no {lang : Int} {pre : List Tok} {a : Nat} {r : List UInt8} (h : overB lang pre a r = false) : nextLx lang (decide (eOf lang pre = (a : Int))) r = nextLx lang false r := by
  unfold overB at h
  cases hd : decide (eOf lang pre = (a : Int)) with
  | false => rfl
  | true =>
    rw [hd] at h
    exact next_blank_other (by simpa using h)
theorem next_zero {lang : Int} {pre : List Tok} {a : Nat} {r : List UInt8} (h : (nextLx lang false r).len = 0) : (nextLx lang (decide (eOf lang pre = (a : Int))) r).len = 0 := by
  cases ho : overB lang pre a r with
  | true => exact absurd h (next_letter_len (over_yes ho).2.1)
  | false => rw [over_no ho]; exact h
theorem next_some {lang : Int} {pre : List Tok} {a : Nat} {r : List UInt8} (h : (nextLx lang false r).len ≠ 0) : (nextLx lang (decide (eOf lang pre = (a : Int))) r).len ≠ 0 := by
  cases ho : overB lang pre a r with
  | true =>
    rw [(over_yes ho).2.2]
    have := pos_word' (over_yes ho).2.1
    simp
    omega
  | false => rw [over_no ho]; exact h

/-- What is left to read behind the lexemes so far: the place behind the blanks, the rest. -/
def Left (lang : Int) (l : List UInt8) (pre : List Tok) (a : Nat) : Prop :=
  ∃ (f q : Nat), q ≤ l.length ∧ l.length < q + f ∧ a = q + skip false (l.drop q) ∧
    lexAll lang l = (pre ++ (toks lang f q (eOf lang pre) (l.drop q)).1, (toks lang f q (eOf lang pre) (l.drop q)).2)

theorem left_start (lang : Int) (l : List UInt8) : Left lang l [] (skip false l) :=
  ⟨l.length + 1, 0, by omega, by omega, by simp, by simp [lexAll, eOf]⟩
theorem left_end {lang : Int} {l : List UInt8} {pre : List Tok} {a : Nat} (h : Left lang l pre a) (ha : l.length ≤ a) : lexAll lang l = (pre, none) := by
  obtain ⟨f, q, h1, h2, h3, h4⟩ := h
  obtain ⟨f, rfl⟩ : ∃ g, f = g + 1 := ⟨f - 1, by omega⟩
  rw [h4, toks, if_pos (by rw [List.length_drop]; omega)]
  simp
theorem left_le {lang : Int} {l : List UInt8} {pre : List Tok} {a : Nat} (h : Left lang l pre a) : a ≤ l.length := by
  obtain ⟨f, q, h1, h2, h3, h4⟩ := h
  have := skip_le (l.drop q) false
  rw [List.length_drop] at this
  omega
theorem left_fault {lang : Int} {l : List UInt8} {pre : List Tok} {a : Nat} (h : Left lang l pre a) (ha : a < l.length) (h0 : (nextLx lang false (l.drop a)).len = 0) : ∃ ts, lexAll lang l = (ts, some a) := by
  obtain ⟨f, q, h1, h2, h3, h4⟩ := h
  obtain ⟨f, rfl⟩ : ∃ g, f = g + 1 := ⟨f - 1, by omega⟩
  rw [h4]
  refine ⟨pre ++ [], ?_⟩
  rw [toks, if_neg (by rw [List.length_drop]; omega), ← h3, List.drop_drop, ← h3, if_pos (next_zero h0)]
theorem left_next {lang : Int} {l : List UInt8} {pre : List Tok} {a : Nat} (h : Left lang l pre a) (ha : a < l.length) {x : Lx} (hx : nextLx lang (decide (eOf lang pre = (a : Int))) (l.drop a) = x) (h0 : x.len ≠ 0) :
    a + x.len ≤ l.length ∧ Left lang l (pre ++ [⟨x, a, a + x.len⟩]) (a + x.len + skip false (l.drop (a + x.len))) := by
  have hle := nextLx_le (lang := lang) (blank := decide (eOf lang pre = (a : Int))) (r := l.drop a) (by rw [List.length_drop]; omega)
  rw [hx, List.length_drop] at hle
  obtain ⟨f, q, h1, h2, h3, h4⟩ := h
  obtain ⟨f, rfl⟩ : ∃ g, f = g + 1 := ⟨f - 1, by omega⟩
  refine ⟨by omega, f, a + x.len, by omega, by omega, rfl, ?_⟩
  rw [h4, toks, if_neg (by rw [List.length_drop]; omega), ← h3, List.drop_drop, ← h3, hx, if_neg h0, eOf_snoc, List.drop_drop]
  simp only [List.append_assoc, List.singleton_append]

end Go.Proofs.Ytaaomjpkgpjegaa
