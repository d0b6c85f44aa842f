/- The program reads of a text what the reference reads of it (plain). -/
import Derived.Test.YtmhjbicbdahllaaGreatDoorVD
namespace Go.Proofs.YtmhjbicbdahllaaGreatDoor
open Go Go.RowKit

/-- A digit's worth. -/
def valU (c : UInt8) : Nat := c.toNat - 48
def digB (c : UInt8) : Bool := digN c.toNat
theorem digB_iff {c : UInt8} : digB c = true ↔ 48 ≤ c.toNat ∧ c.toNat ≤ 57 := by unfold digB digN; exact decide_eq_true_iff
theorem digU_val {c : UInt8} (h : digB c = true) : digU (valU c) = c := by
  have := digB_iff.1 h
  unfold digU valU
  apply UInt8.toNat_inj.1
  rw [UInt8.toNat_ofNat']
  have : 48 + (c.toNat - 48) = c.toNat := by omega
  rw [this]
  exact Nat.mod_eq_of_lt (by omega)
theorem valU_zero {c : UInt8} (h : digB c = true) : valU c = 0 ↔ c = 48 := by
  have := digB_iff.1 h
  unfold valU
  constructor
  · intro e; exact UInt8.toNat_inj.1 (by show c.toNat = 48; omega)
  · intro e; subst e; rfl
theorem ten_contains (c : UInt8) : ten.contains c = digB c := by
  have h : ∀ n : Fin 256, ten.contains (UInt8.ofNat n.val) = digN n.val := by decide +kernel
  have h2 := h ⟨c.toNat, c.toNat_lt⟩
  have e : UInt8.ofNat c.toNat = c := UInt8.ofNat_toNat
  rw [show (⟨c.toNat, c.toNat_lt⟩ : Fin 256).val = c.toNat from rfl, e] at h2
  exact h2
/-- One digit or more. -/
def numL (l : List UInt8) : Bool := !l.isEmpty && l.all digB
theorem dropWhile_nil {α : Type} (p : α → Bool) (l : List α) : l.dropWhile p = [] ↔ l.all p = true := by
  induction l with
  | nil => simp
  | cons c l ih =>
    rw [List.dropWhile_cons]
    cases h : p c
    · simp [h]
    · simp [h, ih]
theorem trimS_nil (l cs : List UInt8) : Lib.trimS l cs = [] ↔ l.all (cs.contains ·) = true := by
  unfold Lib.trimS Lib.trimLeftS Lib.trimRightS
  rw [dropWhile_nil, List.all_reverse]
  constructor
  · intro h
    have h2 : l.reverse.dropWhile (cs.contains ·) = [] := by
      cases hd : l.reverse.dropWhile (cs.contains ·) with
      | nil => rfl
      | cons c r =>
        have := List.head_dropWhile_not (cs.contains ·) (l := l.reverse) (by rw [hd]; simp)
        rw [hd] at h
        have hc : cs.contains c = true := by simp only [List.all_cons, Bool.and_eq_true] at h; exact h.1
        simp only [hd, List.head_cons] at this
        rw [hc] at this; cases this
    have := (dropWhile_nil _ _).1 h2
    rwa [List.all_reverse] at this
  · intro h
    have : l.reverse.dropWhile (cs.contains ·) = [] := (dropWhile_nil _ _).2 (by rw [List.all_reverse]; exact h)
    rw [this]; rfl
theorem toList_mk (l : List UInt8) : (⟨l.toArray⟩ : ByteArray).data.toList = l := rfl
theorem isEmpty_of_data (s : ByteArray) : s.toList.isEmpty = s.data.toList.isEmpty := by
  rw [show s.toList = s.data.toList from Lib.toList_data s]
theorem numT_eq (s : ByteArray) : numT s = numL s.data.toList := by
  unfold numT numL
  rw [isEmpty_of_data, isEmpty_of_data, toList_mk]
  congr 1
  have h := trimS_nil s.data.toList ten
  have e : (s.data.toList.all (ten.contains ·)) = s.data.toList.all digB := by
    congr 1; funext c; exact ten_contains c
  rw [e] at h
  cases hb : s.data.toList.all digB
  · rw [hb] at h
    cases ht : Lib.trimS s.data.toList ten
    · exact absurd (h.1 ht) (by simp)
    · rfl
  · rw [hb] at h
    rw [h.2 rfl]; rfl

theorem index_no {l : List UInt8} (h : 46 ∉ l) : Lib.index l [46] = -1 := by
  induction l with
  | nil => rfl
  | cons c l ih =>
    unfold Lib.index
    have hc : (46 : UInt8) ≠ c := fun e => h (by rw [e]; exact List.mem_cons_self)
    have hp : [46].isPrefixOf (c :: l) = false := by simp [List.isPrefixOf, hc]
    rw [hp, ih (fun e => h (List.mem_cons_of_mem _ e))]
    rfl
theorem index_yes {a b : List UInt8} (h : 46 ∉ a) : Lib.index (a ++ 46 :: b) [46] = a.length := by
  induction a with
  | nil => show Lib.index (46 :: b) [46] = _; unfold Lib.index; simp [List.isPrefixOf]
  | cons c a ih =>
    show Lib.index (c :: (a ++ 46 :: b)) [46] = _
    unfold Lib.index
    have hc : (46 : UInt8) ≠ c := fun e => h (by rw [e]; exact List.mem_cons_self)
    have hp : [46].isPrefixOf (c :: (a ++ 46 :: b)) = false := by simp [List.isPrefixOf, hc]
    rw [hp, ih (fun e => h (List.mem_cons_of_mem _ e))]
    have : ((a.length : Int) == -1) = false := by rw [beq_eq_false_iff_ne]; omega
    rw [this]
    simp
theorem cut_no {l : List UInt8} (h : 46 ∉ l) : Lib.cut l [46] = (l, [], false) := by
  unfold Lib.cut
  rw [index_no h]
  rfl
theorem cut_yes {a b : List UInt8} (h : 46 ∉ a) : Lib.cut (a ++ 46 :: b) [46] = (a, b, true) := by
  unfold Lib.cut
  rw [index_yes h, if_pos (by omega)]
  simp
theorem split_dot (l : List UInt8) : 46 ∉ l ∨ ∃ a b, l = a ++ 46 :: b ∧ 46 ∉ a := by
  induction l with
  | nil => exact .inl (by simp)
  | cons c l ih =>
    by_cases hc : c = 46
    · exact .inr ⟨[], l, by rw [hc]; rfl, by simp⟩
    · rcases ih with h | ⟨a, b, h, ha⟩
      · exact .inl (fun e => by rcases List.mem_cons.1 e with e | e; exact hc e.symm; exact h e)
      · exact .inr ⟨c :: a, b, by rw [h]; rfl, fun e => by rcases List.mem_cons.1 e with e | e; exact hc e.symm; exact ha e⟩
theorem dig46 : digN (46 : UInt8).toNat = false := rfl
theorem pointF_some (l : List UInt8) : ∀ (i j : Nat), pointF l i (some j) = cond (l.all digB) (some (some j)) none := by
  induction l with
  | nil => intro i j; rfl
  | cons c l ih =>
    intro i j
    unfold pointF
    rw [show (c == 46 && (some j).isNone) = false by simp]
    simp only [ih]
    show cond false _ (cond (digB c) _ _) = _
    rw [List.all_cons]
    cases digB c <;> rfl
theorem pointF_no (l : List UInt8) (h : 46 ∉ l) : ∀ (i : Nat), pointF l i none = cond (l.all digB) (some none) none := by
  induction l with
  | nil => intro i; rfl
  | cons c l ih =>
    intro i
    unfold pointF
    have hc : (c == 46) = false := beq_eq_false_iff_ne.2 (fun e => h (by rw [e]; exact List.mem_cons_self))
    rw [hc, ih (fun e => h (List.mem_cons_of_mem _ e))]
    show cond (digB c) _ _ = _
    rw [List.all_cons]
    cases digB c <;> rfl
theorem pointF_yes (a b : List UInt8) (h : 46 ∉ a) : ∀ (i : Nat), pointF (a ++ 46 :: b) i none = cond (a.all digB && b.all digB) (some (some (i + a.length))) none := by
  induction a with
  | nil =>
    intro i
    show pointF (46 :: b) i none = _
    unfold pointF
    rw [show ((46 : UInt8) == 46 && (none : Option Nat).isNone) = true by rfl]
    rw [pointF_some]
    rfl
  | cons c a ih =>
    intro i
    show pointF (c :: (a ++ 46 :: b)) i none = _
    unfold pointF
    have hc : (c == 46) = false := beq_eq_false_iff_ne.2 (fun e => h (by rw [e]; exact List.mem_cons_self))
    rw [hc, ih (fun e => h (List.mem_cons_of_mem _ e))]
    show cond (digB c) _ _ = _
    rw [List.all_cons, show i + 1 + a.length = i + (c :: a).length by simp; omega]
    cases digB c <;> rfl
theorem digs_no {l : List UInt8} (h : 46 ∉ l) : digsD l = (l.map valU).reverse := by
  induction l with
  | nil => rfl
  | cons c l ih =>
    unfold digsD
    have hc : (c == 46) = false := beq_eq_false_iff_ne.2 (fun e => h (by rw [e]; exact List.mem_cons_self))
    rw [hc, ih (fun e => h (List.mem_cons_of_mem _ e))]
    simp [valU]
theorem digs_app (a b : List UInt8) : digsD (a ++ b) = digsD b ++ digsD a := by
  induction a with
  | nil => simp [digsD]
  | cons c a ih => simp [digsD, ih]
theorem no46 {l : List UInt8} (h : l.all digB = true) : 46 ∉ l := fun e => by
  have := List.all_eq_true.1 h _ e
  cases this
theorem digs_yes {a b : List UInt8} (ha : a.all digB = true) (hb : b.all digB = true) : digsD (a ++ 46 :: b) = ((a ++ b).map valU).reverse := by
  rw [digs_app, digs_no (no46 ha)]
  show (digsD b ++ []) ++ _ = _
  rw [digs_no (no46 hb)]
  simp
/-- The places of digits, the lowest first. -/
def revD (d : List UInt8) : List Nat := (d.map valU).reverse
theorem revD_length (d : List UInt8) : (revD d).length = d.length := by simp [revD]
theorem atD_rev (d : List UInt8) {i : Nat} (h : i < d.length) : atD (revD d) i = valU (d[d.length - 1 - i]'(by omega)) := by
  unfold atD revD
  rw [List.getElem?_reverse (by simpa using h)]
  simp only [List.length_map, List.getElem?_map]
  rw [List.getElem?_eq_getElem (by omega)]
  rfl
theorem atD_a (a b : List UInt8) {i : Nat} (h : i < a.length) : atD (revD (a ++ b)) (b.length + i) = valU (a[a.length - 1 - i]'(by omega)) := by
  rw [atD_rev _ (by simp; omega)]
  congr 1
  rw [List.getElem_append_left (by simp; omega)]
  congr 1
  simp; omega
theorem atD_b (a b : List UInt8) {i : Nat} (h : i < b.length) : atD (revD (a ++ b)) i = valU (b[b.length - 1 - i]'(by omega)) := by
  rw [atD_rev _ (by simp; omega)]
  congr 1
  rw [List.getElem_append_right (by simp; omega)]
  congr 1
  simp; omega
def zeroB (c : UInt8) : Bool := [48].contains c
theorem zeroB_iff {c : UInt8} : zeroB c = true ↔ c = 48 := by unfold zeroB; simp
theorem high_aux (D : List Nat) (S : Nat) : ∀ a : List UInt8, a.all digB = true → (∀ (i : Nat) (h : i < a.length), atD D (S + i) = valU (a[a.length - 1 - i]'(by omega))) →
    max (highF D S (S + a.length)) (S + 1) = S + max 1 (a.dropWhile zeroB).length := by
  intro a
  induction a with
  | nil => intro _ _; have := highF_le D S (S + 0); simp at this ⊢; omega
  | cons c a ih =>
    intro hd ha
    rw [List.all_cons, Bool.and_eq_true] at hd
    have h0 := ha a.length (by simp)
    have h0 : atD D (S + a.length) = valU c := by rw [h0]; simp
    rw [show S + (c :: a).length = (S + a.length) + 1 by simp; omega]
    unfold highF
    rw [h0, List.dropWhile_cons]
    have hz := valU_zero hd.1
    by_cases hc : c = 48
    · rw [if_pos (zeroB_iff.2 hc)]
      cases a with
      | nil =>
        rw [if_neg (by simp)]
        simp
      | cons e a =>
        rw [if_pos ⟨by simp, hz.2 hc⟩]
        refine ih hd.2 (fun i h => ?_)
        rw [ha i (by simp at h ⊢; omega)]
        congr 1
        rw [List.getElem_cons]
        rw [dif_neg (by simp at h ⊢; omega)]
        congr 1
        simp at h ⊢; omega
    · rw [if_neg (fun e => hc (hz.1 e.2)), if_neg (fun e => hc (zeroB_iff.1 e))]
      simp; omega
theorem low_aux (D : List Nat) (S : Nat) : ∀ (r : List UInt8) (k : Nat), r.all digB = true → k + r.length = S → (∀ (i : Nat) (h : i < r.length), atD D (k + i) = valU r[i]) →
    lowF D S r.length k = S - (r.dropWhile zeroB).length := by
  intro r
  induction r with
  | nil => intro k _ hk _; simp [lowF] at hk ⊢; omega
  | cons c r ih =>
    intro k hd hk ha
    rw [List.all_cons, Bool.and_eq_true] at hd
    have h0 : atD D k = valU c := ha 0 (by simp)
    have hz := valU_zero hd.1
    show lowF D S (r.length + 1) k = _
    unfold lowF
    rw [h0, List.dropWhile_cons]
    simp only [List.length_cons] at hk
    by_cases hc : c = 48
    · rw [if_pos (zeroB_iff.2 hc), if_pos ⟨by omega, hz.2 hc⟩]
      refine ih (k + 1) hd.2 (by omega) (fun i h => ?_)
      have := ha (i + 1) (by simp; omega)
      rw [show k + (i + 1) = k + 1 + i by omega] at this
      rw [this]; rfl
    · rw [if_neg (fun e => hc (hz.1 e.2)), if_neg (fun e => hc (zeroB_iff.1 e))]
      simp; omega
theorem down_aux (D : List Nat) (lo : Nat) : ∀ a : List UInt8, a.all digB = true → (∀ (i : Nat) (h : i < a.length), atD D (lo + i) = valU (a[a.length - 1 - i]'(by omega))) → downD D (lo + a.length) lo = a := by
  intro a hd ha
  unfold downD
  rw [show lo + a.length - lo = a.length by omega]
  refine List.ext_getElem (by simp) (fun i h1 h2 => ?_)
  simp only [List.getElem_map, List.getElem_range]
  rw [show lo + a.length - 1 - i = lo + (a.length - 1 - i) by omega, ha _ (by omega)]
  have e : a[a.length - 1 - (a.length - 1 - i)]'(by omega) = a[i] := by congr 1; omega
  rw [e]
  exact digU_val (List.all_eq_true.1 hd _ (List.getElem_mem h2))
theorem drop_while_suffix (p : UInt8 → Bool) (a : List UInt8) : a.dropWhile p = a.drop (a.length - (a.dropWhile p).length) := by
  induction a with
  | nil => rfl
  | cons c a ih =>
    rw [List.dropWhile_cons]
    by_cases h : p c = true
    · rw [if_pos h]
      have : (a.dropWhile p).length ≤ a.length := by rw [ih]; simp
      rw [show (c :: a).length - (a.dropWhile p).length = (a.length - (a.dropWhile p).length) + 1 by simp; omega]
      exact ih
    · rw [if_neg h]; simp
theorem all_zero {a : List UInt8} (hd : a.all digB = true) : a.all zeroB = (a.map valU).all (· == 0) := by
  induction a with
  | nil => rfl
  | cons c a ih =>
    rw [List.all_cons, Bool.and_eq_true] at hd
    rw [List.map_cons, List.all_cons, List.all_cons, ih hd.2]
    congr 1
    have hz := valU_zero hd.1
    rw [Bool.eq_iff_iff, zeroB_iff, beq_iff_eq]
    exact hz.symm
theorem form_told (neg : Bool) (a b : List UInt8) (ha : numL a = true) (hb : b.all digB = true) :
    ((⟨(toldT neg (a ++ b) b.length).1.toArray⟩ : ByteArray), (toldT neg (a ++ b) b.length).2) = (cond (formOut (revD (a ++ b)) b.length) ⟨#[]⟩ (formT neg (revD (a ++ b)) b.length), cond (formOut (revD (a ++ b)) b.length) 2 0) := by
  obtain ⟨hne, hda⟩ : a ≠ [] ∧ a.all digB = true := by
    unfold numL at ha
    rw [Bool.and_eq_true] at ha
    exact ⟨by rintro rfl; simp at ha, ha.2⟩
  have hapos : 0 < a.length := List.length_pos_iff.2 hne
  have hpad : padT (a ++ b) b.length = a ++ b := by unfold padT; rw [if_neg (by simp; omega)]
  have hlen : (a ++ b).length - b.length = a.length := by simp
  have hw : wholeT (a ++ b) b.length = a.dropWhile zeroB := by
    unfold wholeT
    rw [hpad, hlen]
    simp only [List.take_left']
    rfl
  have hp : partT (a ++ b) b.length = (b.reverse.dropWhile zeroB).reverse := by
    unfold partT
    rw [hpad, hlen]
    simp only [List.drop_left']
    rfl
  have hA : ∀ (i : Nat) (h : i < a.length), atD (revD (a ++ b)) (b.length + i) = valU (a[a.length - 1 - i]'(by omega)) := fun i h => atD_a a b h
  have hB : ∀ (i : Nat) (h : i < b.length), atD (revD (a ++ b)) i = valU (b[b.length - 1 - i]'(by omega)) := fun i h => atD_b a b h
  have hhigh : highD (revD (a ++ b)) b.length = b.length + max 1 (a.dropWhile zeroB).length := by
    unfold highD
    rw [revD_length, show (a ++ b).length = b.length + a.length by simp; omega]
    exact high_aux _ _ a hda hA
  have hlow : lowD (revD (a ++ b)) b.length = b.length - (b.reverse.dropWhile zeroB).length := by
    unfold lowD
    have := low_aux (revD (a ++ b)) b.length b.reverse 0 (by rw [List.all_reverse]; exact hb) (by simp) (fun i h => by
      rw [Nat.zero_add, hB i (by simpa using h)]
      congr 1
      rw [List.getElem_reverse])
    simpa using this
  have hbl : (b.reverse.dropWhile zeroB).length ≤ b.length := by
    rw [drop_while_suffix]; simp
  have hal : (a.dropWhile zeroB).length ≤ a.length := by
    rw [drop_while_suffix]; simp
  have hout : formOut (revD (a ++ b)) b.length = decide (40 < (a.dropWhile zeroB).length ∨ 20 < (b.reverse.dropWhile zeroB).length) := by
    unfold formOut
    rw [hhigh, hlow, Bool.eq_iff_iff, Bool.or_eq_true, decide_eq_true_iff, decide_eq_true_iff, decide_eq_true_iff]
    omega
  have hzero : zeroD (revD (a ++ b)) = (decide (a.dropWhile zeroB = []) && decide (b.reverse.dropWhile zeroB = [])) := by
    unfold zeroD revD
    rw [List.all_reverse, ← all_zero (by rw [List.all_append, hda, hb]; rfl), List.all_append, Bool.eq_iff_iff, Bool.and_eq_true, Bool.and_eq_true, decide_eq_true_iff, decide_eq_true_iff, dropWhile_nil, dropWhile_nil, List.all_reverse]
  have hdown1 : downD (revD (a ++ b)) (b.length + max 1 (a.dropWhile zeroB).length) b.length = if a.dropWhile zeroB = [] then [48] else a.dropWhile zeroB := by
    have key : ∀ c : List UInt8, (∃ e, a = e ++ c) → downD (revD (a ++ b)) (b.length + c.length) b.length = c := fun c hc => by
      obtain ⟨e, he⟩ := hc
      refine down_aux _ _ c ?_ (fun i h => ?_)
      · rw [he, List.all_append, Bool.and_eq_true] at hda; exact hda.2
      · rw [hA i (by rw [he]; simp; omega)]
        congr 1
        subst he
        rw [List.getElem_append_right (by simp; omega)]
        congr 1
        simp; omega
    by_cases hn : a.dropWhile zeroB = []
    · rw [if_pos hn, hn]
      have haz := (dropWhile_nil _ _).1 hn
      obtain ⟨e, c, he⟩ : ∃ e c, a = e ++ [c] := ⟨a.dropLast, a.getLast hne, (List.dropLast_concat_getLast hne).symm⟩
      have hc : c = 48 := zeroB_iff.1 (List.all_eq_true.1 haz c (by rw [he]; simp))
      have := key [c] ⟨e, he⟩
      rw [hc] at this
      exact this
    · rw [if_neg hn]
      have hpos := List.length_pos_iff.2 hn
      rw [show max 1 (a.dropWhile zeroB).length = (a.dropWhile zeroB).length by omega]
      exact key _ ⟨a.takeWhile zeroB, List.takeWhile_append_dropWhile.symm⟩
  have hdown2 : downD (revD (a ++ b)) b.length (b.length - (b.reverse.dropWhile zeroB).length) = (b.reverse.dropWhile zeroB).reverse := by
    obtain ⟨c, e, hbe, hcr⟩ : ∃ c e, b = c ++ e ∧ c = (b.reverse.dropWhile zeroB).reverse := ⟨(b.reverse.dropWhile zeroB).reverse, (b.reverse.takeWhile zeroB).reverse, by
      rw [← List.reverse_append, List.takeWhile_append_dropWhile, List.reverse_reverse], rfl⟩
    have hcl : (b.reverse.dropWhile zeroB).length = c.length := by rw [hcr]; simp
    rw [← hcr, hcl]
    have hbl2 : b.length = c.length + e.length := by rw [hbe]; simp
    have := down_aux (revD (a ++ b)) (b.length - c.length) c (by rw [hbe, List.all_append, Bool.and_eq_true] at hb; exact hb.1) (fun i h => by
      rw [hB _ (by omega)]
      congr 1
      have : b[b.length - 1 - (b.length - c.length + i)]'(by omega) = (c ++ e)[b.length - 1 - (b.length - c.length + i)]'(by simp; omega) := by congr 1
      rw [this, List.getElem_append_left (by omega)]
      congr 1
      omega)
    rwa [show b.length - c.length + c.length = b.length by omega] at this
  rw [hout]
  unfold toldT
  rw [hw, hp]
  simp only [List.length_reverse, List.reverse_eq_nil_iff]
  by_cases h1 : 40 < (a.dropWhile zeroB).length ∨ 20 < (b.reverse.dropWhile zeroB).length
  · rw [if_pos h1, decide_eq_true h1]; rfl
  · rw [if_neg h1, decide_eq_false h1]
    unfold formT
    rw [hzero, hhigh, hlow, hdown1, hdown2]
    have hls : decide (b.length - (b.reverse.dropWhile zeroB).length = b.length) = decide (b.reverse.dropWhile zeroB = []) := by
      rw [decide_eq_decide]
      constructor
      · intro h
        by_cases hb0 : b.length = 0
        · have : b = [] := List.eq_nil_of_length_eq_zero hb0
          subst this; rfl
        · exact List.eq_nil_of_length_eq_zero (by omega)
      · intro h; rw [h]; rfl
    rw [hls]
    by_cases hwn : a.dropWhile zeroB = [] <;> by_cases hpn : b.reverse.dropWhile zeroB = []
    · rw [if_pos ⟨hwn, hpn⟩]
      simp [hwn, hpn]
    · rw [if_neg (fun h => hpn h.2)]
      cases neg <;> simp [hwn, hpn]
    · rw [if_neg (fun h => hwn h.1)]
      cases neg <;> simp [hwn, hpn]
    · rw [if_neg (fun h => hwn h.1)]
      cases neg <;> simp [hwn, hpn]

/-- What the program reads a text as, and the error's number. -/
def progT (s : ByteArray) : List UInt8 × Int :=
  let c := Lib.cut (sgnT s).data.toList [46]
  if numL c.1 = true ∧ (c.2.2 = true → numL c.2.1 = true) then toldT (sgnB s) (c.1 ++ c.2.1) c.2.1.length else ([], 6)
theorem prog_read (s : ByteArray) : ((⟨(progT s).1.toArray⟩ : ByteArray), (progT s).2) = readT s := by
  unfold progT readT parseT
  have hsz := data_len (sgnT s)
  generalize hl : (sgnT s).data.toList = l at hsz
  rw [← hsz]
  simp only
  rcases split_dot l with h | ⟨a, b, h, hab⟩
  · rw [cut_no h, pointF_no l h]
    cases hd : l.all digB
    · rw [if_neg (by intro e; have := e.1; unfold numL at this; rw [hd] at this; simp at this)]
      rfl
    · simp only [cond_true]
      by_cases h0 : l = []
      · subst h0; rfl
      · have hn : numL l = true := by unfold numL; rw [hd]; cases l <;> simp_all
        rw [if_pos ⟨hn, fun e => by cases e⟩]
        have hlp := List.length_pos_iff.2 h0
        rw [show (decide (l.length = 0) || (none : Option Nat) == some 0 || (none : Option Nat) == some (l.length - 1)) = false by
          rw [decide_eq_false (by omega)]; rfl]
        have := form_told (sgnB s) l [] hn rfl
        rw [digs_no (no46 hd)]
        simp only [List.append_nil, List.length_nil] at this ⊢
        exact this
  · rw [h, cut_yes hab, pointF_yes a b hab]
    by_cases hd : (a.all digB && b.all digB) = true
    · obtain ⟨hda, hdb⟩ := Bool.and_eq_true_iff.1 hd
      rw [hda, hdb]
      simp only [Bool.and_self, cond_true, Nat.zero_add]
      have e1 : (decide ((a ++ 46 :: b).length = 0) || (some a.length == some 0) || (some a.length == some ((a ++ 46 :: b).length - 1))) = (decide (a = []) || decide (b = [])) := by
        rw [Bool.eq_iff_iff]
        simp only [Bool.or_eq_true, decide_eq_true_iff, List.length_append, List.length_cons, beq_iff_eq, Option.some.injEq, ← List.length_eq_zero_iff]
        omega
      rw [e1]
      by_cases ha0 : a = []
      · rw [if_neg (by rintro ⟨e, _⟩; subst ha0; cases e)]
        rw [decide_eq_true ha0]; rfl
      · by_cases hb0 : b = []
        · rw [if_neg (by rintro ⟨_, e⟩; subst hb0; exact absurd (e trivial) (by decide))]
          simp [hb0]
        · have hna : numL a = true := by unfold numL; rw [hda]; cases a <;> simp_all
          have hnb : numL b = true := by unfold numL; rw [hdb]; cases b <;> simp_all
          rw [if_pos ⟨hna, fun _ => hnb⟩, decide_eq_false ha0, decide_eq_false hb0]
          simp only [Bool.or_self, cond_false]
          rw [digs_yes hda hdb]
          have e2 : scaleP (a ++ 46 :: b).length (some a.length) = b.length := by unfold scaleP; simp
          rw [e2]
          exact form_told (sgnB s) a b hna hdb
    · have hd : (a.all digB && b.all digB) = false := by simpa using hd
      rw [hd]
      simp only [cond_false]
      rw [if_neg]
      rintro ⟨e1, e2⟩
      have e2 := e2 trivial
      unfold numL at e1 e2
      rw [Bool.and_eq_true] at e1 e2
      rw [e1.2, e2.2] at hd
      cases hd
end Go.Proofs.YtmhjbicbdahllaaGreatDoor
