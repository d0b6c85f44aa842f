/- Plain facts on lexemes. -/
import Derived.RowKit
import Derived.Lib.Strings
import Derived.Lib.Bytealg
set_option linter.unusedSimpArgs false
set_option linter.unusedVariables false
/- Plain facts on lists of bytes, for the lexer. -/
namespace Go.Proofs.YtngdilbfhpcfgaaGreatDoor
set_option maxRecDepth 100000

def letB (c : Int) : Bool := decide (97 ≤ c ∧ c ≤ 122 ∨ 65 ≤ c ∧ c ≤ 90)
def digB (c : Int) : Bool := decide (48 ≤ c ∧ c ≤ 57)

/-- The byte at a place, as a number; 0 beyond the end. -/
def pk (l : List UInt8) (i : Nat) : Int := ((l.getD i 0).toNat : Int)

theorem pk_nonneg (l : List UInt8) (i : Nat) : 0 ≤ pk l i := Int.natCast_nonneg _
theorem pk_le (l : List UInt8) (i : Nat) : pk l i ≤ 255 := by
  unfold pk; have := (l.getD i 0).toNat_lt; omega
theorem pk_drop (l : List UInt8) (p i : Nat) : pk (l.drop p) i = pk l (p + i) := by
  unfold pk
  rw [List.getD_eq_getElem?_getD, List.getD_eq_getElem?_getD, List.getElem?_drop]
theorem pk_out {l : List UInt8} {i : Nat} (h : l.length ≤ i) : pk l i = 0 := by
  unfold pk
  rw [List.getD_eq_getElem?_getD, List.getElem?_eq_none h]
  rfl

/-- How many bytes at a list's head meet a test on numbers. -/
def tw (f : Int → Bool) (r : List UInt8) : Nat := (r.takeWhile fun c => f c.toNat).length

theorem tw_le (f : Int → Bool) (r : List UInt8) : tw f r ≤ r.length := by
  unfold tw
  induction r with
  | nil => simp
  | cons c r ih =>
    simp only [List.takeWhile_cons]
    split <;> simp <;> omega

theorem tw_step (f : Int → Bool) (h0 : f 0 = false) : ∀ (r : List UInt8) (k : Nat), k ≤ tw f r →
    (f (pk r k) = true → k + 1 ≤ tw f r) ∧ (f (pk r k) = false → k = tw f r) := by
  intro r
  induction r with
  | nil =>
    intro k hk
    have hz : tw f [] = 0 := rfl
    rw [hz] at hk
    obtain rfl : k = 0 := by omega
    have hp : pk [] 0 = 0 := rfl
    rw [hp, h0, hz]
    simp
  | cons c r ih =>
    intro k hk
    by_cases hc : f c.toNat = true
    · have ht : tw f (c :: r) = tw f r + 1 := by simp [tw, hc]
      rw [ht] at hk ⊢
      cases k with
      | zero =>
        have hp : pk (c :: r) 0 = c.toNat := rfl
        rw [hp, hc]
        simp
      | succ k =>
        have hp : pk (c :: r) (k + 1) = pk r k := rfl
        rw [hp]
        obtain ⟨a, b⟩ := ih k (by omega)
        exact ⟨fun h => by have := a h; omega, fun h => by have := b h; omega⟩
    · have hc' : f c.toNat = false := by simpa using hc
      have ht : tw f (c :: r) = 0 := by simp [tw, hc']
      rw [ht] at hk ⊢
      obtain rfl : k = 0 := by omega
      have hp : pk (c :: r) 0 = c.toNat := rfl
      rw [hp, hc']
      simp

/-- May a byte stand in a word, behind its head. -/
def wrdB (c : Int) : Bool := letB c || digB c || decide (c = 95)

/-- How long the word is that a list begins with; 0: none. -/
def wordLen (r : List UInt8) : Nat := if letB (pk r 0) then 1 + tw wrdB (r.drop 1) else 0

/-- How many digits a list begins with. -/
def digLen (r : List UInt8) : Nat := tw digB r

theorem drop_at {l : List UInt8} {i : Nat} (h : i < l.length) : ∃ c : UInt8, l.drop i = c :: l.drop (i + 1) ∧ pk l i = c.toNat := by
  refine ⟨l[i], List.drop_eq_getElem_cons h, ?_⟩
  unfold pk
  rw [List.getD_eq_getElem?_getD, List.getElem?_eq_getElem h]
  rfl

/-- A byte that may not stand in an IRI. -/
def iriBad (c : Int) : Bool := decide (c ≤ 32 ∨ c = 60 ∨ c = 62 ∨ c = 34)

/-- From so far on behind an IRI's first mark: how long it is; 0: it is none. -/
def iriScan : Nat → List UInt8 → Nat
  | _, [] => 0
  | i, c :: t => if (c.toNat : Int) = 62 ∧ 1 < i then i + 1 else if iriBad c.toNat then 0 else iriScan (i + 1) t

/-- How long the IRI is that a list begins with; 0: none. -/
def iriLen (r : List UInt8) : Nat := iriScan 1 (r.drop 1)

theorem iriScan_out {l : List UInt8} {i k : Nat} (h : l.length ≤ i) : iriScan k (l.drop i) = 0 := by
  rw [List.drop_of_length_le h]; rfl
theorem iriScan_end {l : List UInt8} {i k : Nat} (h : i < l.length) (h1 : pk l i = 62) (h2 : 1 < k) : iriScan k (l.drop i) = k + 1 := by
  obtain ⟨c, e, f⟩ := drop_at h
  rw [e, iriScan, if_pos ⟨by omega, h2⟩]
theorem iriScan_bad {l : List UInt8} {i k : Nat} (h : i < l.length) (h1 : pk l i = 62 → k ≤ 1) (h2 : iriBad (pk l i) = true) : iriScan k (l.drop i) = 0 := by
  obtain ⟨c, e, f⟩ := drop_at h
  rw [e, iriScan, if_neg (by rintro ⟨a, b⟩; have := h1 (by omega); omega), ← f, if_pos h2]
theorem iriScan_on {l : List UInt8} {i k : Nat} (h : i < l.length) (h2 : iriBad (pk l i) = false) : iriScan k (l.drop i) = iriScan (k + 1) (l.drop (i + 1)) := by
  obtain ⟨c, e, f⟩ := drop_at h
  rw [e, iriScan, if_neg (by rintro ⟨a, b⟩; unfold iriBad at h2; simp at h2; omega), ← f, h2]
  rfl

/-- The marks of two bytes; those of one. -/
def markTwos : List (List UInt8) := [[60, 61], [62, 61], [60, 62], [33, 61], [38, 38], [124, 124], [95, 58]]
def markOnes : List UInt8 := [40, 41, 91, 93, 123, 125, 44, 46, 58, 59, 124, 61, 60, 62, 43, 45, 42, 47, 37, 33]

/-- How long the mark is that a list begins with; 0: none. -/
def markLen (r : List UInt8) : Nat :=
  if markTwos.any (fun m => Lib.hasPrefix r m) then 2
  else match r with
    | [] => 0
    | c :: _ => if 0 ≤ Lib.indexByte markOnes c then 1 else 0

/-- The mark of two bytes that is tried so far on. -/
def mt (k : Nat) : List UInt8 := markTwos.getD k []

theorem markLen_two {r : List UInt8} (k : Nat) (hk : k < 7) (h : Lib.hasPrefix r (mt k) = true) : markLen r = 2 := by
  unfold markLen
  rw [if_pos]
  rw [List.any_eq_true]
  refine ⟨mt k, ?_, h⟩
  unfold mt
  rw [List.getD_eq_getElem?_getD, List.getElem?_eq_getElem (by simpa [markTwos] using hk)]
  exact List.getElem_mem _
theorem mt_snoc {r : List UInt8} {k : Nat} (h : ∀ j, j < k → Lib.hasPrefix r (mt j) = false) (h1 : Lib.hasPrefix r (mt k) = false) : ∀ j, j < k + 1 → Lib.hasPrefix r (mt j) = false := by
  intro j hj
  rcases Nat.lt_or_ge j k with hlt | hge
  · exact h j hlt
  · obtain rfl : j = k := by omega
    exact h1
theorem no_twos {r : List UInt8} (h : ∀ j, j < 7 → Lib.hasPrefix r (mt j) = false) : markTwos.any (fun m => Lib.hasPrefix r m) = false := by
  have h0 := h 0 (by omega); have h1 := h 1 (by omega); have h2 := h 2 (by omega); have h3 := h 3 (by omega)
  have h4 := h 4 (by omega); have h5 := h 5 (by omega); have h6 := h 6 (by omega)
  simp only [mt, markTwos, List.getD_cons_zero, List.getD_cons_succ] at h0 h1 h2 h3 h4 h5 h6
  simp only [markTwos, List.any_cons, List.any_nil, h0, h1, h2, h3, h4, h5, h6, Bool.or_false]
theorem markLen_nil : markLen [] = 0 := by rfl
theorem markLen_one {r : List UInt8} {c : UInt8} {t : List UInt8} (he : r = c :: t) (h : ∀ j, j < 7 → Lib.hasPrefix r (mt j) = false) : markLen r = if 0 ≤ Lib.indexByte markOnes c then 1 else 0 := by
  unfold markLen
  rw [no_twos h, he]
  rfl

end Go.Proofs.YtngdilbfhpcfgaaGreatDoor
/- Plain facts on quoted texts, for the lexer. -/
namespace Go.Proofs.YtngdilbfhpcfgaaGreatDoor
set_option maxRecDepth 100000

/-- What a byte behind a backslash stands for. -/
def unesc (d : UInt8) : Option UInt8 := if d = 34 then some 34 else if d = 92 then some 92 else if d = 110 then some 10 else if d = 116 then some 9 else none

/-- From so far on behind a quoted text's first mark: what it says, how long it is. -/
def quoScan : Nat → List UInt8 → List UInt8 → Option (List UInt8 × Nat)
  | _, _, [] => none
  | i, acc, c :: t =>
    if c = 34 then some (acc, i + 1)
    else if c = 92 then
      match t with
      | [] => none
      | d :: t' => match unesc d with
        | some e => quoScan (i + 2) (acc ++ [e]) t'
        | none => none
    else if c < 32 then none
    else quoScan (i + 1) (acc ++ [c]) t

/-- What the quoted text says that a list begins with, and how long it is. -/
def quoted (r : List UInt8) : Option (List UInt8 × Nat) := quoScan 1 [] (r.drop 1)

theorem u8_of {c : UInt8} {n : Nat} (hn : n < 256) (h : (c.toNat : Int) = n) : c = UInt8.ofNat n := by
  apply UInt8.toNat_inj.1
  rw [UInt8.toNat_ofNat']
  have : c.toNat = n := by omega
  rw [this]; omega

theorem quoScan_cons (k : Nat) (acc : List UInt8) (c : UInt8) (t : List UInt8) : quoScan k acc (c :: t) =
    if c = 34 then some (acc, k + 1)
    else if c = 92 then
      match t with
      | [] => none
      | d :: t' => match unesc d with
        | some e => quoScan (k + 2) (acc ++ [e]) t'
        | none => none
    else if c < 32 then none
    else quoScan (k + 1) (acc ++ [c]) t := by
  cases t <;> rfl

theorem quo_out {l : List UInt8} {i k : Nat} {acc : List UInt8} (h : l.length ≤ i) : quoScan k acc (l.drop i) = none := by
  rw [List.drop_of_length_le h, quoScan]
theorem quo_end {l : List UInt8} {i k : Nat} {acc : List UInt8} (h : i < l.length) (h1 : pk l i = 34) : quoScan k acc (l.drop i) = some (acc, k + 1) := by
  obtain ⟨c, e, f⟩ := drop_at h
  obtain rfl : c = 34 := u8_of (n := 34) (by omega) (by omega)
  rw [e, quoScan_cons, if_pos rfl]
theorem quo_bad {l : List UInt8} {i k : Nat} {acc : List UInt8} (h : i < l.length) (h1 : pk l i < 32) : quoScan k acc (l.drop i) = none := by
  obtain ⟨c, e, f⟩ := drop_at h
  have a : c ≠ 34 := by rintro rfl; rw [f] at h1; revert h1; decide
  have b : c ≠ 92 := by rintro rfl; rw [f] at h1; revert h1; decide
  have d : c < 32 := by rw [UInt8.lt_iff_toNat_lt]; rw [f] at h1; simp; omega
  rw [e, quoScan_cons, if_neg a, if_neg b, if_pos d]
theorem quo_on {l : List UInt8} {i k : Nat} {acc : List UInt8} {c : UInt8} (h : i < l.length) (hc : pk l i = c.toNat) (h1 : 32 ≤ pk l i) (h2 : pk l i ≠ 34) (h3 : pk l i ≠ 92) :
    quoScan k acc (l.drop i) = quoScan (k + 1) (acc ++ [c]) (l.drop (i + 1)) := by
  obtain ⟨c', e, f⟩ := drop_at h
  obtain rfl : c' = c := UInt8.toNat_inj.1 (by omega)
  have a : c' ≠ 34 := by rintro rfl; exact h2 (f.trans rfl)
  have b : c' ≠ 92 := by rintro rfl; exact h3 (f.trans rfl)
  have d : ¬ c' < 32 := by rw [UInt8.lt_iff_toNat_lt]; rw [f] at h1; simp; omega
  rw [e, quoScan_cons, if_neg a, if_neg b, if_neg d]
theorem quo_esc {l : List UInt8} {i k : Nat} {acc : List UInt8} {d e : UInt8} (h1 : pk l i = 92) (h : i + 1 < l.length) (hd : pk l (i + 1) = d.toNat) (he : unesc d = some e) :
    quoScan k acc (l.drop i) = quoScan (k + 2) (acc ++ [e]) (l.drop (i + 2)) := by
  obtain ⟨c, e1, f⟩ := drop_at (show i < l.length by omega)
  obtain ⟨d', e2, g⟩ := drop_at h
  obtain rfl : d' = d := UInt8.toNat_inj.1 (by omega)
  obtain rfl : c = 92 := u8_of (n := 92) (by omega) (by omega)
  rw [e1, e2, quoScan_cons, if_neg (by decide), if_pos rfl]
  simp only [he]
theorem quo_esc_out {l : List UInt8} {i k : Nat} {acc : List UInt8} (hi : i < l.length) (h1 : pk l i = 92) (h : l.length ≤ i + 1) : quoScan k acc (l.drop i) = none := by
  obtain ⟨c, e1, f⟩ := drop_at hi
  obtain rfl : c = 92 := u8_of (n := 92) (by omega) (by omega)
  rw [e1, List.drop_of_length_le h, quoScan_cons, if_neg (by decide), if_pos rfl]
theorem quo_esc_bad {l : List UInt8} {i k : Nat} {acc : List UInt8} {d : UInt8} (h1 : pk l i = 92) (h : i + 1 < l.length) (hd : pk l (i + 1) = d.toNat) (he : unesc d = none) :
    quoScan k acc (l.drop i) = none := by
  obtain ⟨c, e1, f⟩ := drop_at (show i < l.length by omega)
  obtain ⟨d', e2, g⟩ := drop_at h
  obtain rfl : d' = d := UInt8.toNat_inj.1 (by omega)
  obtain rfl : c = 92 := u8_of (n := 92) (by omega) (by omega)
  rw [e1, e2, quoScan_cons, if_neg (by decide), if_pos rfl]
  simp only [he]

/-- The byte that stands for a backslash's fellow, where it has one. -/
theorem esc_index (d : UInt8) : (unesc d = none ∧ Lib.indexByte [34, 92, 110, 116] d = -1) ∨ (unesc d = some 34 ∧ Lib.indexByte [34, 92, 110, 116] d = 0) ∨
    (unesc d = some 92 ∧ Lib.indexByte [34, 92, 110, 116] d = 1) ∨ (unesc d = some 10 ∧ Lib.indexByte [34, 92, 110, 116] d = 2) ∨ (unesc d = some 9 ∧ Lib.indexByte [34, 92, 110, 116] d = 3) := by
  by_cases h1 : d = 34
  · subst h1; exact .inr (.inl ⟨rfl, rfl⟩)
  by_cases h2 : d = 92
  · subst h2; exact .inr (.inr (.inl ⟨rfl, rfl⟩))
  by_cases h3 : d = 110
  · subst h3; exact .inr (.inr (.inr (.inl ⟨rfl, rfl⟩)))
  by_cases h4 : d = 116
  · subst h4; exact .inr (.inr (.inr (.inr ⟨rfl, rfl⟩)))
  refine .inl ⟨by unfold unesc; rw [if_neg h1, if_neg h2, if_neg h3, if_neg h4], ?_⟩
  simp [Lib.indexByte, Ne.symm h1, Ne.symm h2, Ne.symm h3, Ne.symm h4]

end Go.Proofs.YtngdilbfhpcfgaaGreatDoor
/- What a lexeme is: plain functions on lists of bytes. -/
namespace Go.Proofs.YtngdilbfhpcfgaaGreatDoor
set_option maxRecDepth 100000

/-- A lexeme read at a list's head: its kind, its texts, how long it is (0: there is none). -/
structure Lx where
  kind : Nat
  text : List UInt8
  extra : List UInt8
  len : Nat

/-- What S alone reads. -/
def ownLx (lang : Int) (blank : Bool) (r : List UInt8) : Option Lx :=
  if lang ≠ 1 then none
  else if pk r 0 = 63 then
    if 0 < wordLen (r.drop 1) then some ⟨1, (r.drop 1).take (wordLen (r.drop 1)), [], wordLen (r.drop 1) + 1⟩ else none
  else if pk r 0 = 60 then
    if 0 < iriLen r then some ⟨5, (r.drop 1).take (iriLen r - 2), [], iriLen r⟩ else none
  else if pk r 0 = 58 ∨ letB (pk r 0) = true ∧ blank = false then
    if pk r (wordLen r) = 58 then
      if 0 < wordLen (r.drop (wordLen r + 1)) then
        some ⟨6, r.take (wordLen r), (r.drop (wordLen r + 1)).take (wordLen (r.drop (wordLen r + 1))), wordLen r + 1 + wordLen (r.drop (wordLen r + 1))⟩
      else none
    else none
  else none

/-- The lexeme at a list's head. -/
def plainLx (r : List UInt8) : Lx :=
  if letB (pk r 0) = true then ⟨0, r.take (wordLen r), [], wordLen r⟩
  else if digB (pk r 0) = true then
    if pk r (digLen r) = 46 ∧ 0 < digLen (r.drop (digLen r + 1)) then
      ⟨3, r.take (digLen r + (1 + digLen (r.drop (digLen r + 1)))), [], digLen r + (1 + digLen (r.drop (digLen r + 1)))⟩
    else ⟨2, r.take (digLen r), [], digLen r⟩
  else if pk r 0 = 34 then
    match quoted r with
    | some (t, n) => ⟨4, t, [], n⟩
    | none => ⟨4, [], [], 0⟩
  else ⟨7, r.take (markLen r), [], markLen r⟩

def nextLx (lang : Int) (blank : Bool) (r : List UInt8) : Lx :=
  match ownLx lang blank r with
  | some x => x
  | none => plainLx r

theorem wordLen_le (r : List UInt8) : wordLen r ≤ r.length := by
  unfold wordLen
  split
  · rename_i h
    cases r with
    | nil => exact absurd h (by decide)
    | cons c t => have := tw_le wrdB t; simp; omega
  · omega
theorem digLen_le (r : List UInt8) : digLen r ≤ r.length := tw_le _ r
theorem iriScan_le : ∀ (t : List UInt8) (k : Nat), iriScan k t ≤ k + t.length ∧ (0 < iriScan k t → k < iriScan k t ∧ 2 < iriScan k t) := by
  intro t
  induction t with
  | nil => intro k; simp [iriScan]
  | cons c t ih =>
    intro k
    simp only [iriScan]
    split
    · simp; omega
    · split
      · simp
      · have := ih (k + 1); simp; omega
theorem iriLen_le (r : List UInt8) : iriLen r ≤ r.length + 1 ∧ (0 < iriLen r → 2 < iriLen r ∧ iriLen r ≤ r.length) := by
  unfold iriLen
  have h := iriScan_le (r.drop 1) 1
  cases r with
  | nil => simp [iriScan]
  | cons c t => simp at h ⊢; omega
theorem quoScan_le : ∀ (n : Nat) (t : List UInt8) (k : Nat) (acc : List UInt8) (x : List UInt8 × Nat), t.length ≤ n → quoScan k acc t = some x → k < x.2 ∧ x.2 ≤ k + t.length := by
  intro n
  induction n with
  | zero =>
    intro t k acc x h hx
    obtain rfl : t = [] := List.eq_nil_of_length_eq_zero (by omega)
    simp [quoScan] at hx
  | succ n ih =>
    intro t k acc x h hx
    cases t with
    | nil => simp [quoScan] at hx
    | cons c t =>
      rw [quoScan_cons] at hx
      simp only [List.length_cons] at h ⊢
      split at hx
      · simp at hx; subst hx; simp
      · split at hx
        · cases t with
          | nil => simp at hx
          | cons d t' =>
            simp only [List.length_cons] at h ⊢
            cases hu : unesc d with
            | none => simp [hu] at hx
            | some e =>
              simp only [hu] at hx
              have := ih t' _ _ _ (by omega) hx
              omega
        · split at hx
          · simp at hx
          · have := ih t _ _ _ (by omega) hx
            omega
theorem quoted_le {r : List UInt8} {x : List UInt8 × Nat} (hr : 0 < r.length) (h : quoted r = some x) : 1 < x.2 ∧ x.2 ≤ r.length := by
  unfold quoted at h
  have := quoScan_le _ _ _ _ _ (Nat.le_refl _) h
  cases r with
  | nil => simp at hr
  | cons c t => simp at this ⊢; omega
theorem twos_len (k : Nat) (hk : k < 7) : (mt k).length = 2 := by
  have : k = 0 ∨ k = 1 ∨ k = 2 ∨ k = 3 ∨ k = 4 ∨ k = 5 ∨ k = 6 := by omega
  rcases this with rfl | rfl | rfl | rfl | rfl | rfl | rfl <;> rfl
theorem markLen_le (r : List UInt8) : markLen r ≤ r.length := by
  unfold markLen
  split
  · rename_i h
    rw [List.any_eq_true] at h
    obtain ⟨m, hm, hp⟩ := h
    have h2 : m.length = 2 := by
      simp only [markTwos, List.mem_cons, List.not_mem_nil, or_false] at hm
      rcases hm with rfl | rfl | rfl | rfl | rfl | rfl | rfl <;> rfl
    have := List.IsPrefix.length_le (List.isPrefixOf_iff_prefix.1 hp)
    omega
  · split
    · simp
    · split <;> simp

end Go.Proofs.YtngdilbfhpcfgaaGreatDoor
/- What a text's lexemes are: plain functions on lists of bytes. -/
namespace Go.Proofs.YtngdilbfhpcfgaaGreatDoor
set_option maxRecDepth 100000

def blankB (c : UInt8) : Bool := c == 32 || c == 9 || c == 13 || c == 10

/-- How many bytes of blanks and remarks a list begins with (true: we stand in a remark). -/
def skip : Bool → List UInt8 → Nat
  | _, [] => 0
  | false, c :: t => if blankB c then 1 + skip false t else if c = 35 then 1 + skip true t else 0
  | true, c :: t => if c = 10 then 1 + skip false t else 1 + skip true t

theorem skip_le : ∀ (t : List UInt8) (m : Bool), skip m t ≤ t.length := by
  intro t
  induction t with
  | nil => intro m; simp [skip]
  | cons c t ih =>
    intro m
    have h1 := ih true
    have h2 := ih false
    cases m <;> simp only [skip, List.length_cons]
    · split
      · omega
      · split <;> omega
    · split <;> omega

/-- A lexeme with its place and its end. -/
structure Tok where
  x : Lx
  at_ : Nat
  end_ : Nat

/-- Where the mark of a blank has ended just now; -1: nowhere. -/
def endOf (lang : Int) (x : Lx) (q : Nat) : Int := if x.kind = 7 ∧ x.text = [95, 58] ∧ lang = 1 then q else -1

/-- The lexemes from a place on (p: the place; e: where the mark of a blank has ended; the list: what is left), and the place of the fault, if there is one. -/
def toks (lang : Int) : Nat → Nat → Int → List UInt8 → List Tok × Option Nat
  | 0, _, _, _ => ([], none)
  | f + 1, p, e, r =>
    if r.length ≤ skip false r then ([], none)
    else
      if (nextLx lang (decide (e = ((p + skip false r : Nat) : Int))) (r.drop (skip false r))).len = 0 then ([], some (p + skip false r))
      else
        (⟨nextLx lang (decide (e = ((p + skip false r : Nat) : Int))) (r.drop (skip false r)), p + skip false r,
            p + skip false r + (nextLx lang (decide (e = ((p + skip false r : Nat) : Int))) (r.drop (skip false r))).len⟩ ::
          (toks lang f (p + skip false r + (nextLx lang (decide (e = ((p + skip false r : Nat) : Int))) (r.drop (skip false r))).len)
            (endOf lang (nextLx lang (decide (e = ((p + skip false r : Nat) : Int))) (r.drop (skip false r)))
              (p + skip false r + (nextLx lang (decide (e = ((p + skip false r : Nat) : Int))) (r.drop (skip false r))).len))
            ((r.drop (skip false r)).drop (nextLx lang (decide (e = ((p + skip false r : Nat) : Int))) (r.drop (skip false r))).len)).1,
          (toks lang f (p + skip false r + (nextLx lang (decide (e = ((p + skip false r : Nat) : Int))) (r.drop (skip false r))).len)
            (endOf lang (nextLx lang (decide (e = ((p + skip false r : Nat) : Int))) (r.drop (skip false r)))
              (p + skip false r + (nextLx lang (decide (e = ((p + skip false r : Nat) : Int))) (r.drop (skip false r))).len))
            ((r.drop (skip false r)).drop (nextLx lang (decide (e = ((p + skip false r : Nat) : Int))) (r.drop (skip false r))).len)).2)

/-- The lexemes of a text, and the place of the fault. -/
def lexAll (lang : Int) (l : List UInt8) : List Tok × Option Nat := toks lang (l.length + 1) 0 (-1) l

end Go.Proofs.YtngdilbfhpcfgaaGreatDoor
