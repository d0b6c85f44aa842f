/- Plain facts: a lexeme read alone is itself; what stands between lexemes. -/
import Derived.Test.YtaaomjpkgpjegaaF0
namespace Go.Proofs.Ytaaomjpkgpjegaa

theorem wordLen_pos {r : List UInt8} (h : 0 < wordLen r) : letB (pk r 0) = true := by
  unfold wordLen at h
  split at h
  · assumption
  · omega
theorem pos_word {r : List UInt8} (h : letB (pk r 0) = true) : 0 < wordLen r := by
  unfold wordLen; rw [if_pos h]; omega

theorem own_alone {lang : Int} {blank : Bool} {r : List UInt8} {x : Lx} (h : ownLx lang blank r = some x) : ownLx lang false (r.take x.len) = some x := by
  unfold ownLx at h
  split at h
  · cases h
  rename_i hl
  split at h
  · rename_i h63
    split at h
    · rename_i hp
      injection h with h; subst h
      unfold ownLx
      rw [if_neg hl, pk_take (by simp only; omega), if_pos h63]
      simp only
      have e : (r.take (wordLen (r.drop 1) + 1)).drop 1 = (r.drop 1).take (wordLen (r.drop 1)) := by rw [List.drop_take]; rfl
      rw [e, wordLen_take (Nat.le_refl _), if_pos hp, List.take_take, Nat.min_self]
    · cases h
  rename_i h63
  split at h
  · rename_i h60
    split at h
    · rename_i hp
      injection h with h; subst h
      unfold ownLx
      rw [if_neg hl]
      simp only
      rw [pk_take hp, if_neg h63, if_pos h60, iriLen_take hp, if_pos hp, List.drop_take, List.take_take]
      rw [Nat.min_eq_left (by omega)]
    · cases h
  rename_i h60
  split at h
  · rename_i hc
    split at h
    · split at h
      · rename_i h58 hw
        injection h with h; subst h
        unfold ownLx
        rw [if_neg hl]
        simp only
        rw [pk_take (by omega), if_neg h63, if_neg h60, if_pos (hc.imp id fun h => ⟨h.1, trivial⟩), wordLen_take (by omega), pk_take (by omega), if_pos h58, List.drop_take,
          show wordLen r + 1 + wordLen (r.drop (wordLen r + 1)) - (wordLen r + 1) = wordLen (r.drop (wordLen r + 1)) by omega, wordLen_take (Nat.le_refl _), if_pos hw,
          List.take_take, List.take_take, Nat.min_self, Nat.min_eq_left (by omega)]
      · cases h
    · cases h
  · cases h

theorem plain_alone {r : List UInt8} (h : 0 < (plainLx r).len) : plainLx (r.take (plainLx r).len) = plainLx r := by
  unfold plainLx at h ⊢
  by_cases h1 : letB (pk r 0) = true
  · rw [if_pos h1] at h ⊢
    simp only at h ⊢
    rw [pk_take h, if_pos h1, wordLen_take (Nat.le_refl _), List.take_take, Nat.min_self]
  rw [if_neg h1] at h ⊢
  by_cases h2 : digB (pk r 0) = true
  · rw [if_pos h2] at h ⊢
    by_cases h3 : pk r (digLen r) = 46 ∧ 0 < digLen (r.drop (digLen r + 1))
    · rw [if_pos h3] at h ⊢
      simp only at h ⊢
      rw [pk_take h, if_neg h1, if_pos h2, digLen_take (by omega), pk_take (by omega), List.drop_take, digLen_take (by omega), if_pos h3, List.take_take, Nat.min_self]
    · rw [if_neg h3] at h ⊢
      simp only at h ⊢
      rw [pk_take h, if_neg h1, if_pos h2, digLen_take (by omega), pk_take_out (Nat.le_refl _), if_neg (by rintro ⟨h, _⟩; exact absurd h (by decide)), List.take_take, Nat.min_self]
  rw [if_neg h2] at h ⊢
  by_cases h3 : pk r 0 = 34
  · rw [if_pos h3] at h ⊢
    cases hq : quoted r with
    | none => rw [hq] at h; simp at h
    | some y =>
      obtain ⟨t, n⟩ := y
      rw [hq] at h
      simp only at h ⊢
      rw [pk_take h, if_neg h1, if_neg h2, if_pos h3, quoted_take hq]
  rw [if_neg h3] at h ⊢
  simp only at h ⊢
  rw [pk_take h, if_neg h1, if_neg h2, if_neg h3, markLen_take, List.take_take, Nat.min_self]

theorem plain_letter {r : List UInt8} (h : letB (pk r 0) = true) : (plainLx r).len = wordLen r := by
  unfold plainLx; rw [if_pos h]
theorem plain_mark {r : List UInt8} (h1 : ¬ letB (pk r 0) = true) (h2 : ¬ digB (pk r 0) = true) (h3 : ¬ pk r 0 = 34) : (plainLx r).len = markLen r := by
  unfold plainLx; rw [if_neg h1, if_neg h2, if_neg h3]

theorem pk_cons (c : UInt8) (t : List UInt8) : pk (c :: t) 0 = c.toNat := rfl

theorem own_none_alone {lang : Int} {blank : Bool} {r : List UInt8} (h : ownLx lang blank r = none) (hp : 0 < (plainLx r).len) : ownLx lang false (r.take (plainLx r).len) = none := by
  unfold ownLx
  split
  · rfl
  rename_i hl
  rw [pk_take hp]
  by_cases h63 : pk r 0 = 63
  · exfalso
    rw [plain_mark (by rw [h63]; decide) (by rw [h63]; decide) (by rw [h63]; decide)] at hp
    rcases mark_cases r with h0 | ⟨a, t, rfl, h0, h1⟩ | ⟨a, b, t, rfl, h0, hm, h1⟩
    · omega
    · obtain rfl : a = 63 := u8_of (n := 63) (by omega) h63
      revert h1; decide
    · obtain rfl : a = 63 := u8_of (n := 63) (by omega) h63
      revert hm; simp [markTwos]
  rw [if_neg h63]
  by_cases h60 : pk r 0 = 60
  · rw [if_pos h60]
    rw [plain_mark (by rw [h60]; decide) (by rw [h60]; decide) (by rw [h60]; decide)] at hp ⊢
    rcases mark_cases r with h0 | ⟨a, t, rfl, h0, h1⟩ | ⟨a, b, t, rfl, h0, hm, h1⟩
    · omega
    · rw [h0]; rfl
    · obtain rfl : a = 60 := u8_of (n := 60) (by omega) h60
      simp only [markTwos, List.mem_cons, List.not_mem_nil, or_false, List.cons.injEq, and_true] at hm
      rw [h0]
      rcases hm with ⟨_, rfl⟩ | ⟨h, _⟩ | ⟨_, rfl⟩ | ⟨h, _⟩ | ⟨h, _⟩ | ⟨h, _⟩ | ⟨h, _⟩
      · rfl
      · exact absurd h (by decide)
      · rfl
      all_goals exact absurd h (by decide)
  rw [if_neg h60]
  by_cases hw : letB (pk r 0) = true
  · rw [plain_letter hw] at hp ⊢
    rw [if_pos (.inr ⟨hw, rfl⟩), wordLen_take (Nat.le_refl _), pk_take_out (Nat.le_refl _), if_neg (by decide)]
  · by_cases h58 : pk r 0 = 58
    · rw [if_pos (.inl h58)]
      rw [plain_mark hw (by rw [h58]; decide) (by rw [h58]; decide)] at hp ⊢
      rcases mark_cases r with h0 | ⟨a, t, rfl, h0, h1⟩ | ⟨a, b, t, rfl, h0, hm, h1⟩
      · omega
      · obtain rfl : a = 58 := u8_of (n := 58) (by omega) h58
        rw [h0]; rfl
      · obtain rfl : a = 58 := u8_of (n := 58) (by omega) h58
        revert hm; simp [markTwos]
    · rw [if_neg (by rintro (h | h); exact h58 h; exact hw h.1)]

theorem next_alone {lang : Int} {blank : Bool} {r : List UInt8} {x : Lx} (hx : nextLx lang blank r = x) (h : x.len ≠ 0) : nextLx lang false (r.take x.len) = x := by
  subst hx
  unfold nextLx at h ⊢
  cases ho : ownLx lang blank r with
  | some x =>
    rw [ho] at h
    simp only
    rw [own_alone ho]
  | none =>
    rw [ho] at h
    simp only at h ⊢
    rw [own_none_alone ho (by omega), plain_alone (by omega)]

theorem skip_take : ∀ (t : List UInt8) (m : Bool) (k : Nat), k ≤ skip m t → skip m (t.take k) = k := by
  intro t
  induction t with
  | nil => intro m k h; simp [skip] at h; subst h; cases m <;> rfl
  | cons c t ih =>
    intro m k h
    cases k with
    | zero => cases m <;> rfl
    | succ k =>
      rw [List.take_succ_cons]
      cases m
      · rw [skip] at h ⊢
        by_cases h1 : blankB c = true
        · rw [if_pos h1] at h ⊢; rw [ih false k (by omega)]; omega
        · rw [if_neg h1] at h ⊢
          by_cases h2 : c = 35
          · rw [if_pos h2] at h ⊢; rw [ih true k (by omega)]; omega
          · rw [if_neg h2] at h; omega
      · rw [skip] at h ⊢
        by_cases h1 : c = 10
        · rw [if_pos h1] at h ⊢; rw [ih false k (by omega)]; omega
        · rw [if_neg h1] at h ⊢; rw [ih true k (by omega)]; omega
theorem skip_drop : ∀ (t : List UInt8) (m : Bool), skip m t < t.length → skip false (t.drop (skip m t)) = 0 := by
  intro t
  induction t with
  | nil => intro m h; simp at h
  | cons c t ih =>
    intro m h
    rw [List.length_cons] at h
    cases m
    · rw [skip] at h ⊢
      by_cases h1 : blankB c = true
      · rw [if_pos h1] at h ⊢; rw [Nat.add_comm, List.drop_succ_cons]; exact ih false (by omega)
      · rw [if_neg h1] at h ⊢
        by_cases h2 : c = 35
        · rw [if_pos h2] at h ⊢; rw [Nat.add_comm, List.drop_succ_cons]; exact ih true (by omega)
        · rw [if_neg h2] at h ⊢
          rw [List.drop_zero, skip, if_neg h1, if_neg h2]
    · rw [skip] at h ⊢
      by_cases h1 : c = 10
      · rw [if_pos h1] at h ⊢; rw [Nat.add_comm, List.drop_succ_cons]; exact ih false (by omega)
      · rw [if_neg h1] at h ⊢; rw [Nat.add_comm, List.drop_succ_cons]; exact ih true (by omega)
theorem skip_zero_take {t : List UInt8} {k : Nat} (h : skip false t = 0) : skip false (t.take k) = 0 := by
  cases t with
  | nil => simp [skip]
  | cons c t =>
    cases k with
    | zero => rfl
    | succ k =>
      rw [List.take_succ_cons]
      rw [skip] at h ⊢
      split at h
      · omega
      · rename_i h1
        split at h
        · omega
        · rename_i h2; rw [if_neg h1, if_neg h2]

/-- A lexeme's bytes, read alone. -/
theorem lexAll_alone {lang : Int} {blank : Bool} {r : List UInt8} {x : Lx} (hx : nextLx lang blank r = x) (h : x.len ≠ 0) (hl : x.len ≤ r.length) (hs : skip false r = 0) :
    lexAll lang (r.take x.len) = ([⟨x, 0, x.len⟩], none) := by
  have hlen : (r.take x.len).length = x.len := by rw [List.length_take]; omega
  obtain ⟨m, hm⟩ : ∃ m, x.len = m + 1 := ⟨x.len - 1, by omega⟩
  have hn := next_alone hx h
  unfold lexAll
  have := toks_go (lang := lang) (f := (r.take x.len).length) (q := 0) (m := 0) (e := -1) (l := r.take x.len) (x := x) (by simpa using skip_zero_take hs) (by omega) (by simpa using hn) h
  rw [List.drop_zero] at this
  rw [this, toks_end (by omega)]
  simp

/-- What the statement on places says of lexemes from a place on. -/
def Places (lang : Int) (l : List UInt8) : Nat → List Tok → Prop
  | q, [] => skip false (l.drop q) = (l.drop q).length
  | q, t :: ts => q ≤ t.at_ ∧ t.end_ = t.at_ + t.x.len ∧ t.x.len ≠ 0 ∧ t.end_ ≤ l.length ∧ skip false ((l.drop q).take (t.at_ - q)) = t.at_ - q ∧
      lexAll lang ((l.drop t.at_).take t.x.len) = ([⟨t.x, 0, t.x.len⟩], none) ∧ Places lang l t.end_ ts

theorem places_toks {lang : Int} {l : List UInt8} : ∀ (f q : Nat) (e : Int) (ts : List Tok), l.length ≤ q + f → q ≤ l.length → toks lang (f + 1) q e (l.drop q) = (ts, none) → Places lang l q ts := by
  intro f
  induction f with
  | zero =>
    intro q e ts h hq ht
    have hd : l.drop q = [] := List.drop_of_length_le (by omega)
    rw [hd] at ht
    have : toks lang 1 q e [] = ([], none) := rfl
    rw [this] at ht
    injection ht with ht
    subst ht
    show skip false (l.drop q) = _
    rw [hd]; rfl
  | succ f ih =>
    intro q e ts h hq ht
    have hsl := skip_le (l.drop q) false
    by_cases he : l.length ≤ q + skip false (l.drop q)
    · rw [toks_end he] at ht
      injection ht with ht
      subst ht
      show skip false (l.drop q) = _
      rw [List.length_drop] at hsl ⊢
      omega
    · generalize hm : q + skip false (l.drop q) = m at he
      generalize hx : nextLx lang (decide (e = (m : Int))) (l.drop m) = x
      by_cases hb : x.len = 0
      · rw [toks_bad (by omega) hm (by omega) (by rw [hx]; exact hb)] at ht
        injection ht with _ ht
        cases ht
      · rw [toks_go hm (by omega) hx hb] at ht
        injection ht with h1 h2
        subst h1
        have hxl : x.len ≤ (l.drop m).length := by
          rw [← hx]
          exact nextLx_le (by rw [List.length_drop]; omega)
        have hdm : l.drop m = (l.drop q).drop (skip false (l.drop q)) := by rw [List.drop_drop, hm]
        have hs0 : skip false (l.drop m) = 0 := by
          rw [hdm]
          exact skip_drop _ _ (by rw [List.length_drop]; omega)
        have hxl2 := hxl
        rw [List.length_drop] at hxl2
        refine ⟨by simp only; omega, rfl, hb, by simp only; omega, ?_, lexAll_alone hx hb hxl hs0, ih _ _ _ (by simp only; omega) (by simp only; omega) (Prod.ext rfl h2)⟩
        exact skip_take _ _ _ (by simp only; omega)

theorem places_all {lang : Int} {l : List UInt8} {ts : List Tok} (h : lexAll lang l = (ts, none)) : Places lang l 0 ts :=
  places_toks l.length 0 (-1) ts (by omega) (by omega) h

/-- The place of a fault is one of the text's. -/
theorem toks_fault {lang : Int} {l : List UInt8} {p : Nat} : ∀ (f q : Nat) (e : Int) (ts : List Tok), q ≤ l.length → toks lang f q e (l.drop q) = (ts, some p) → p < l.length := by
  intro f
  induction f with
  | zero => intro q e ts hq ht; cases ht
  | succ f ih =>
    intro q e ts hq ht
    by_cases he : l.length ≤ q + skip false (l.drop q)
    · rw [toks_end he] at ht; cases ht
    · generalize hm : q + skip false (l.drop q) = m at he
      generalize hx : nextLx lang (decide (e = (m : Int))) (l.drop m) = x
      by_cases hb : x.len = 0
      · rw [toks_bad (by omega) hm (by omega) (by rw [hx]; exact hb)] at ht
        injection ht with _ ht
        injection ht with ht
        omega
      · rw [toks_go hm (by omega) hx hb] at ht
        injection ht with h1 h2
        have hxl : x.len ≤ (l.drop m).length := by
          rw [← hx]
          exact nextLx_le (by rw [List.length_drop]; omega)
        rw [List.length_drop] at hxl
        exact ih _ _ _ (by omega) (Prod.ext rfl h2)
theorem lexAll_fault {lang : Int} {l : List UInt8} {ts : List Tok} {p : Nat} (h : lexAll lang l = (ts, some p)) : p < l.length :=
  toks_fault _ 0 _ ts (by omega) h

end Go.Proofs.Ytaaomjpkgpjegaa
