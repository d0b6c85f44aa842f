/- Seeking told by stepping: the plain law of TriplesSeeks. -/
import Derived.Test.YtijciakkfpjjbaaGreatDoorM8
namespace Go.Proofs.YtijciakkfpjjbaaGreatDoor
open Go

section
variable {T : List Trip} {w : Way}
theorem keys_rise (hT : ∀ t, t ∈ T → ScalT t) (pre : List Val) : Rise ordV (keysA T w pre) := (keysA_is hT pre).1
theorem keysA_one (hT : ∀ t, t ∈ T → ScalT t) {pre : List Val} {a b : Val} (ha : a ∈ keysA T w pre) (hb : b ∈ keysA T w pre) (h : ordV a b = 0) : a = b := by
 obtain ⟨t, h1, _, rfl⟩ := ((keysA_is hT pre).2 a).1 ha
 obtain ⟨u, h2, _, rfl⟩ := ((keysA_is hT pre).2 b).1 hb
 exact ordV_eq ((hT t h1).get _) ((hT u h2).get _) h
theorem toA_at {strict : Bool} {v cur : Val} {pre : List Val} : toA T w strict v ⟨pre ++ [cur], false⟩ = match (keysA T w pre).find? (toF strict cur v) with
    | some x => (⟨pre ++ [x], false⟩, true)
    | none => (⟨pre ++ [cur], true⟩, false) := by
 unfold toA
 rw [List.getLast?_concat, List.dropLast_concat]
 simp only [Bool.false_eq_true, if_false]
 all_goals rfl
theorem nextA_at {cur : Val} {pre : List Val} : nextA T w ⟨pre ++ [cur], false⟩ = toA T w true cur ⟨pre ++ [cur], false⟩ := by
 unfold nextA
 rw [List.getLast?_concat]
 simp only [Bool.false_eq_true, if_false]
theorem keyA_at {cur : Val} {pre : List Val} : keyA ⟨pre ++ [cur], false⟩ = some cur := by
 unfold keyA
 rw [List.getLast?_concat]
 rfl
theorem toF_false {cur v x : Val} : toF false cur v x = true ↔ 0 ≤ ordV x cur ∧ 0 ≤ ordV x v := by
 unfold toF
 simp
theorem toF_next {cur x : Val} : toF true cur cur x = true ↔ 0 < ordV x cur := by
 unfold toF
 simp only [Bool.and_eq_true, decide_eq_true_eq, if_true]
 omega
theorem ord_lt_le {a b d : Val} (h1 : ordV a b < 0) (h2 : ordV b d ≤ 0) : ordV a d < 0 := ordV_pre.lt_trans h1 h2
theorem rise_find {l : List Val} (hl : Rise ordV l) {f : Val → Bool} {x y : Val} (hx : l.find? f = some x) (hy : y ∈ l) (hf : f y = true) : ordV x y ≤ 0 := by
 obtain ⟨_, a, b, rfl, ha⟩ := List.find?_eq_some_iff_append.1 hx
 rw [List.mem_append, List.mem_cons] at hy
 rcases hy with hy | rfl | hy
 ·have := ha y hy
  rw [hf] at this
  cases this
 ·rw [ordV_refl]; exact Int.le_refl _
 ·have := (List.pairwise_append.1 hl).2.1
  rw [List.pairwise_cons] at this
  have := this.1 y hy
  omega
theorem find_congr {l : List Val} {f g : Val → Bool} (h : ∀ x, x ∈ l → f x = g x) : l.find? f = l.find? g := by
 induction l with
 | nil => rfl
 | cons a r ih =>
  rw [List.find?_cons, List.find?_cons, h a (by simp), ih fun x hx => h x (by simp [hx])]
/-- Where a cursor stands that steps to where another sought. -/
def SkI (T : List Trip) (w : Way) (v : Val) (c d : CurA) : Prop :=
 (∃ pre cur, d = ⟨pre ++ [cur], false⟩ ∧ cur ∈ keysA T w pre ∧ keyA (toA T w false v d).1 = keyA (toA T w false v c).1) ∨ (d.fin = true ∧ keyA (toA T w false v c).1 = none)
noncomputable def cntA (T : List Trip) (w : Way) (d : CurA) : Nat := match d.way.getLast? with
 | none => 0
 | some cur => if d.fin = true then 0 else 1 + ((keysA T w d.way.dropLast).filter fun y => decide (0 < ordV y cur)).length
theorem cntA_at {cur : Val} {pre : List Val} : cntA T w ⟨pre ++ [cur], false⟩ = 1 + ((keysA T w pre).filter fun y => decide (0 < ordV y cur)).length := by
 unfold cntA
 rw [List.getLast?_concat, List.dropLast_concat]
 simp only [Bool.false_eq_true, if_false]
theorem cntA_fin {c : CurA} (h : c.fin = true) : cntA T w c = 0 := by
 unfold cntA
 cases c.way.getLast? with
 | none => rfl
 | some x => simp only [h, if_true]
theorem fin_key {c : CurA} (h : c.fin = true) : keyA c = none := by unfold keyA; rw [if_pos h]
theorem sk_step (hT : ∀ t, t ∈ T → ScalT t) {v : Val} {c d : CurA} (h : SkI T w v c d) {x : Val} (hk : keyA d = some x) (hv : ordV x v < 0) : SkI T w v c (nextA T w d).1 ∧ cntA T w (nextA T w d).1 < cntA T w d := by
 rcases h with ⟨pre, cur, rfl, hm, hs⟩ | ⟨hf, _⟩
 ·rw [keyA_at] at hk
  injection hk with hk
  subst hk
  have hr := keys_rise (w := w) hT pre
  rw [nextA_at, toA_at]
  cases hn : (keysA T w pre).find? (toF true cur cur) with
  | none =>
   refine ⟨.inr ⟨rfl, ?_⟩, ?_⟩
   ·rw [← hs, toA_at, List.find?_eq_none.2 ?_]
    ·rfl
    ·intro y hy h
     have h1 := toF_false.1 h
     have h2 := List.find?_eq_none.1 hn y hy
     rw [toF_next] at h2
     have := ordV_pre.zero' (a := y) (b := cur) v
     have h3 : ordV y cur = 0 := by omega
     have := ordV_pre.zero y cur v h3
     omega
   ·rw [cntA_at, cntA_fin rfl]
    omega
  | some y =>
   have hy := List.mem_of_find?_eq_some hn
   have hyc := toF_next.1 (List.find?_some hn)
   refine ⟨.inl ⟨pre, y, rfl, hy, ?_⟩, ?_⟩
   ·rw [← hs, toA_at, toA_at, find_congr (f := toF false y v) (g := toF false cur v)]
    ·split
     ·rw [keyA_at]
     ·rw [fin_key rfl]
      exact (fin_key rfl).symm
    ·intro z hz
     rw [Bool.eq_iff_iff, toF_false, toF_false]
     constructor
     ·rintro ⟨h1, h2⟩
      have h3 : ordV y z ≤ 0 := by have := ordV_anti z y; omega
      have h4 : ordV cur y < 0 := by have := ordV_anti y cur; omega
      have := ord_lt_le h4 h3
      have := ordV_anti z cur
      exact ⟨by omega, h2⟩
     ·rintro ⟨h1, h2⟩
      refine ⟨?_, h2⟩
      have h3 : 0 < ordV z cur := by
       rcases Int.lt_or_eq_of_le h1 with h | h
       ·exact h
       ·have := ordV_pre.zero z cur v h.symm
        omega
      have := rise_find hr hn hz (toF_next.2 h3)
      have := ordV_anti z y
      omega
   ·rw [cntA_at, cntA_at]
    have h1 : ((keysA T w pre).filter fun z => decide (0 < ordV z y)).length < ((keysA T w pre).filter fun z => decide (0 < ordV z cur)).length := by
     have hsub : ((keysA T w pre).filter fun z => decide (0 < ordV z y)) = (((keysA T w pre).filter fun z => decide (0 < ordV z cur)).filter fun z => decide (0 < ordV z y)) := by
      rw [List.filter_filter]
      refine List.filter_congr fun z _ => ?_
      rw [Bool.eq_iff_iff, Bool.and_eq_true, decide_eq_true_eq, decide_eq_true_eq]
      refine ⟨fun h => ⟨h, ?_⟩, fun h => h.1⟩
      have h4 : ordV cur y < 0 := by have := ordV_anti y cur; omega
      have h5 : ordV y z ≤ 0 := by have := ordV_anti z y; omega
      have := ord_lt_le h4 h5
      have := ordV_anti z cur
      omega
     rw [hsub]
     refine List.length_filter_lt_length_iff_exists.2 ⟨y, List.mem_filter.2 ⟨hy, decide_eq_true hyc⟩, ?_⟩
     rw [ordV_refl]
     decide
    omega
 ·rw [fin_key hf] at hk
  cases hk
theorem sk_end (hT : ∀ t, t ∈ T → ScalT t) {v : Val} {c d : CurA} (h : SkI T w v c d) (he : keyA d = none ∨ ∃ x, keyA d = some x ∧ 0 ≤ ordV x v) : keyA d = keyA (toA T w false v c).1 := by
 rcases h with ⟨pre, cur, rfl, hm, hs⟩ | ⟨hf, h⟩
 ·rw [keyA_at] at he ⊢
  rcases he with he | ⟨x, he, hx⟩
  ·cases he
  ·injection he with he
   subst he
   rw [← hs, toA_at]
   have hc : toF false cur v cur = true := toF_false.2 ⟨by rw [ordV_refl]; exact Int.le_refl _, hx⟩
   cases hn : (keysA T w pre).find? (toF false cur v) with
   | none => exact absurd hc (List.find?_eq_none.1 hn cur hm)
   | some y =>
    have h1 := rise_find (keys_rise hT pre) hn hm hc
    have h2 := (toF_false.1 (List.find?_some hn)).1
    have h3 := List.mem_of_find?_eq_some hn
    have e : y = cur := keysA_one hT h3 hm (by omega)
    rw [e]
    exact keyA_at.symm
 ·rw [fin_key hf, h]
/-- A cursor that only opened levels. -/
def OpI (T : List Trip) (w : Way) (c : CurA) : Prop := c = ⟨[], false⟩ ∨ ∃ pre cur, c = ⟨pre ++ [cur], false⟩ ∧ cur ∈ keysA T w pre
theorem op_step {c : CurA} (h : OpI T w c) : OpI T w (openA T w c).1 := by
 unfold openA
 split
 ·exact h
 ·split
  ·exact h
  ·rename_i x r hk
   exact .inr ⟨c.way, x, rfl, by rw [hk]; simp⟩
theorem op_start {v : Val} {c : CurA} (h : OpI T w c) (hk : keyA c ≠ none) : SkI T w v c c := by
 rcases h with rfl | ⟨pre, cur, rfl, hm⟩
 ·exact absurd rfl hk
 ·exact .inl ⟨pre, cur, rfl, hm, rfl⟩
theorem op_none {v : Val} {c : CurA} (h : OpI T w c) (hk : keyA c = none) : toA T w false v c = (c, false) := by
 rcases h with rfl | ⟨pre, cur, rfl, hm⟩
 ·rfl
 ·rw [keyA_at] at hk
  cases hk
theorem op_found {v : Val} {c : CurA} (h : OpI T w c) : (toA T w false v c).2 = (keyA (toA T w false v c).1).isSome := by
 rcases h with rfl | ⟨pre, cur, rfl, hm⟩
 ·rfl
 ·rw [toA_at]
  split
  ·rw [keyA_at]
   rfl
  ·rw [fin_key rfl]
   rfl
theorem op_not_before {v x old : Val} {c : CurA} (h : OpI T w c) (ho : keyA c = some old) (hx : keyA (toA T w false v c).1 = some x) : ¬ ordV x old < 0 := by
 rcases h with rfl | ⟨pre, cur, rfl, hm⟩
 ·cases ho
 ·rw [keyA_at] at ho
  injection ho with ho
  subst ho
  rw [toA_at] at hx
  split at hx
  ·rename_i y hn
   rw [keyA_at] at hx
   injection hx with hx
   subst hx
   have := (toF_false.1 (List.find?_some hn)).1
   omega
  ·rw [fin_key rfl] at hx
   cases hx
theorem key_mem {v x : Val} {c d : CurA} (h : SkI T w v c d) (hk : keyA d = some x) : ∃ pre, x ∈ keysA T w pre := by
 rcases h with ⟨pre, cur, rfl, hm, _⟩ | ⟨hf, _⟩
 ·rw [keyA_at] at hk
  injection hk with hk
  subst hk
  exact ⟨pre, hm⟩
 ·rw [fin_key hf] at hk
  cases hk
theorem op_mem {x : Val} {c : CurA} (h : OpI T w c) (hk : keyA c = some x) : ∃ pre, x ∈ keysA T w pre := by
 rcases h with rfl | ⟨pre, cur, rfl, hm⟩
 ·cases hk
 ·rw [keyA_at] at hk
  injection hk with hk
  subst hk
  exact ⟨pre, hm⟩
theorem to_mem {v x : Val} {c : CurA} (h : OpI T w c) (hk : keyA (toA T w false v c).1 = some x) : ∃ pre, x ∈ keysA T w pre := by
 rcases h with rfl | ⟨pre, cur, rfl, hm⟩
 ·cases hk
 ·rw [toA_at] at hk
  split at hk
  ·rename_i y hn
   rw [keyA_at] at hk
   injection hk with hk
   subst hk
   exact ⟨pre, List.mem_of_find?_eq_some hn⟩
  ·rw [fin_key rfl] at hk
   cases hk
end
end Go.Proofs.YtijciakkfpjjbaaGreatDoor
