/- The bits of a row of flags, 64 to a word: plain facts. -/
import Derived.Laws.BitsAllLaws
namespace Go.Proofs.YtdhnmgndekncpaaDoor

/-- Word k of bs has bit j just where flag 64 k + j is set; beyond the flags there is none. -/
def BitsOf (bs : List Nat) (fs : List Bool) : Prop :=
  bs.length = (fs.length + 63) / 64 ∧ ∀ k b, bs[k]? = some b → b < 18446744073709551616 ∧ ∀ j, b.testBit j = (decide (j < 64) && fs.getD (64 * k + j) false)

theorem bits_nil : BitsOf [] [] := ⟨rfl, fun k b h => by simp at h⟩
theorem bits_at {bs : List Nat} {fs : List Bool} (h : BitsOf bs fs) {i : Nat} (hi : i < fs.length) :
    ∃ b, bs[i / 64]? = some b ∧ b < 18446744073709551616 ∧ b.testBit (i % 64) = fs.getD i false := by
  have hl : i / 64 < bs.length := by rw [h.1]; omega
  refine ⟨bs[i / 64], List.getElem?_eq_getElem hl, ?_⟩
  obtain ⟨h1, h2⟩ := h.2 _ _ (List.getElem?_eq_getElem hl)
  refine ⟨h1, ?_⟩
  rw [h2 (i % 64), show 64 * (i / 64) + i % 64 = i by omega]
  simp [Nat.mod_lt i (by decide : 0 < 64)]
theorem getD_snoc_false (fs : List Bool) (i : Nat) : (fs ++ [false]).getD i false = fs.getD i false := by
  simp only [List.getD_eq_getElem?_getD]
  rcases Nat.lt_trichotomy i fs.length with h | h | h
  · rw [List.getElem?_append_left h]
  · subst h; simp
  · rw [List.getElem?_eq_none (by simp; omega), List.getElem?_eq_none (by omega)]
theorem bits_keep {bs : List Nat} {fs : List Bool} (h : BitsOf bs fs) (hn : fs.length % 64 ≠ 0) : BitsOf bs (fs ++ [false]) :=
  ⟨by rw [h.1]; simp; omega, fun k b hb => ⟨(h.2 k b hb).1, fun j => by rw [getD_snoc_false]; exact (h.2 k b hb).2 j⟩⟩
theorem bits_more {bs : List Nat} {fs : List Bool} (h : BitsOf bs fs) (hn : fs.length % 64 = 0) : BitsOf (bs ++ [0]) (fs ++ [false]) := by
  refine ⟨by simp [h.1]; omega, fun k b hb => ?_⟩
  rcases Nat.lt_trichotomy k bs.length with hk | hk | hk
  · rw [List.getElem?_append_left hk] at hb
    exact ⟨(h.2 k b hb).1, fun j => by rw [getD_snoc_false]; exact (h.2 k b hb).2 j⟩
  · subst hk
    simp at hb
    subst hb
    refine ⟨by decide, fun j => ?_⟩
    have hl : fs.length ≤ 64 * bs.length + j := by rw [h.1]; omega
    rw [getD_snoc_false, List.getD_eq_getElem?_getD, List.getElem?_eq_none hl]
    simp
  · rw [List.getElem?_eq_none (by simp; omega)] at hb; cases hb
theorem bits_set {bs : List Nat} {fs : List Bool} (h : BitsOf bs (fs ++ [false])) {b : Nat} (hb : bs[fs.length / 64]? = some b) : BitsOf (bs.set (fs.length / 64) (b ||| 2 ^ (fs.length % 64))) (fs ++ [true]) := by
  have hlt : fs.length / 64 < bs.length := by
    rcases Nat.lt_or_ge (fs.length / 64) bs.length with h' | h'
    · exact h'
    · rw [List.getElem?_eq_none h'] at hb; cases hb
  refine ⟨by rw [List.length_set, h.1]; simp, fun k c hc => ?_⟩
  have gt : ∀ i, i ≠ fs.length → (fs ++ [true]).getD i false = (fs ++ [false]).getD i false := fun i hi => by
    simp only [List.getD_eq_getElem?_getD]
    rcases Nat.lt_trichotomy i fs.length with h' | h' | h'
    · rw [List.getElem?_append_left h', List.getElem?_append_left h']
    · omega
    · rw [List.getElem?_eq_none (by simp; omega), List.getElem?_eq_none (by simp; omega)]
  by_cases hk : k = fs.length / 64
  · subst hk
    rw [List.getElem?_set_self hlt] at hc
    injection hc with hc
    subst hc
    obtain ⟨h1, h2⟩ := h.2 _ _ hb
    refine ⟨Nat.or_lt_two_pow (n := 64) h1 (Nat.pow_lt_pow_right (by decide) (Nat.mod_lt _ (by decide))), fun j => ?_⟩
    rw [Nat.testBit_or, h2 j, Nat.testBit_two_pow]
    by_cases hj : j = fs.length % 64
    · subst hj
      have e : 64 * (fs.length / 64) + fs.length % 64 = fs.length := by omega
      rw [e]
      simp [Nat.mod_lt fs.length (by decide : 0 < 64)]
    · have e : 64 * (fs.length / 64) + j ≠ fs.length ∨ 64 ≤ j := by omega
      rcases e with e | e
      · rw [gt _ e]; simp [show ¬ fs.length % 64 = j from fun e => hj e.symm]
      · simp [show ¬ j < 64 by omega, show ¬ fs.length % 64 = j from fun e => hj e.symm]
  · rw [List.getElem?_set_ne (fun e => hk e.symm)] at hc
    obtain ⟨h1, h2⟩ := h.2 k c hc
    refine ⟨h1, fun j => ?_⟩
    rw [h2 j]
    by_cases hj : j < 64
    · rw [gt _ (by omega)]
    · simp [hj]
theorem bit_of (b k : Nat) : (b / 2 ^ k) % 2 = if b.testBit k then 1 else 0 := by
  rw [Nat.testBit_eq_decide_div_mod_eq]
  have := Nat.mod_two_eq_zero_or_one (b / 2 ^ k)
  rcases this with h | h <;> simp [h]

end Go.Proofs.YtdhnmgndekncpaaDoor
