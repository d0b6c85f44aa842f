/- A value whose lists lie in rows of the call's own; what turns elsewhere leaves it. -/
import Derived.Test.YtmhjbicbdahllaaGreatDoorV2
import Derived.Test.YtmhjbicbdahllaaGreatDoorL0
import Derived.OneCell
import Derived.Laws.OwnMore
namespace Go.Proofs.YtmhjbicbdahllaaGreatDoor
open Go Go.RowKit

def flatV (cs : Nat → Array Value) (n : Nat) : List Value := (List.range n).flatMap fun i => (cs i).toList
theorem flatV_succ (cs : Nat → Array Value) (n : Nat) : flatV cs (n + 1) = flatV cs n ++ (cs n).toList := by unfold flatV; rw [List.range_succ]; simp
theorem flatV_congr {cs ds : Nat → Array Value} {n : Nat} (h : ∀ i, i < n → cs i = ds i) : flatV cs n = flatV ds n := by
  induction n with
  | zero => rfl
  | succ n ih => rw [flatV_succ, flatV_succ, ih (fun i hi => h i (by omega)), h n (by omega)]
theorem flatV_length {cs : Nat → Array Value} {n : Nat} (h : ∀ i, i < n → (cs i).size = 6) : (flatV cs n).length = n * 6 := by
  induction n with
  | zero => rfl
  | succ n ih => rw [flatV_succ, List.length_append, ih (fun i hi => h i (by omega))]; simp [h n (by omega)]; omega
theorem flatV_at {cs : Nat → Array Value} {n i j : Nat} (h : ∀ i, i < n → (cs i).size = 6) (hi : i < n) (hj : j < 6) : (flatV cs n)[i * 6 + j]? = (cs i)[j]? := by
  induction n with
  | zero => omega
  | succ n ih =>
    rw [flatV_succ]
    have hl := flatV_length (cs := cs) (n := n) (fun i hi => h i (by omega))
    by_cases he : i = n
    · subst he
      rw [List.getElem?_append_right (by omega), hl, show i * 6 + j - i * 6 = j by omega]
      simp
    · rw [List.getElem?_append_left (by omega)]
      exact ih (fun i hi => h i (by omega)) (by omega)

/-- The value v lies in memory as u, its lists in rows of their own, all of them in F, no two of them the same. -/
inductive VOwn (w : World) : (Nat → Prop) → Val → Value → Prop where
  | mk (v : Val) (F : Nat → Prop) (s : Value) (cs : Nat → Array Value) (Fs : Nat → Nat → Prop) (hrow : w.ownsRow 0 55 6 s v.list.length (flatV cs v.list.length)) (h6 : ∀ i, i < v.list.length → (cs i).size = 6)
      (hF : ∀ g, s.ownBlock = some g → F g) (hFs : ∀ i b, i < v.list.length → Fs i b → F b ∧ s.ownBlock ≠ some b) (hdis : ∀ i j b, i < v.list.length → j < v.list.length → i ≠ j → Fs i b → ¬ Fs j b)
      (hr : ∀ i x, v.list[i]? = some x → VOwn w (Fs i) x (.agg (cs i))) : VOwn w F v (.agg (cellsV v s))
/-- A list of values in a row of its own. -/
def LOwn (w : World) (F : Nat → Prop) (l : List Val) (s : Value) : Prop :=
  ∃ (cs : Nat → Array Value) (Fs : Nat → Nat → Prop), w.ownsRow 0 55 6 s l.length (flatV cs l.length) ∧ (∀ i, i < l.length → (cs i).size = 6) ∧ (∀ g, s.ownBlock = some g → F g) ∧
    (∀ i b, i < l.length → Fs i b → F b ∧ s.ownBlock ≠ some b) ∧ (∀ i j b, i < l.length → j < l.length → i ≠ j → Fs i b → ¬ Fs j b) ∧ ∀ i x, l[i]? = some x → VOwn w (Fs i) x (.agg (cs i))

section
variable {w w' : World} {F F' : Nat → Prop} {v : Val} {u s : Value} {l : List Val}
theorem VOwn.inv (h : VOwn w F v u) : ∃ s, u = .agg (cellsV v s) ∧ LOwn w F v.list s := by
  cases h with
  | mk _ _ s cs Fs hrow h6 hF hFs hdis hr => exact ⟨s, rfl, cs, Fs, hrow, h6, hF, hFs, hdis, hr⟩
theorem VOwn.of_list (h : LOwn w F v.list s) : VOwn w F v (.agg (cellsV v s)) := by
  obtain ⟨cs, Fs, hrow, h6, hF, hFs, hdis, hr⟩ := h
  exact .mk v F s cs Fs hrow h6 hF hFs hdis hr
theorem VOwn.turn (h : VOwn w F v u) {S : Nat → Prop} (ht : Turn S w w') (hS : ∀ b, F b → ¬ S b) : VOwn w' F v u := by
  induction h with
  | mk v F s cs Fs hrow h6 hF hFs hdis hr ih =>
    exact .mk v F s cs Fs (ht.owns hrow (fun g hg => hS g (hF g hg))) h6 hF hFs hdis (fun i x hx => ih i x hx (fun b hb => hS b (hFs i b (by
      rcases Nat.lt_or_ge i v.list.length with h | h
      · exact h
      · rw [List.getElem?_eq_none h] at hx; cases hx) hb).1))
theorem VOwn.mono (h : VOwn w F v u) (hF : ∀ b, F b → F' b) : VOwn w F' v u := by
  cases h with
  | mk _ _ s cs Fs hrow h6 hF0 hFs hdis hr => exact .mk v F' s cs Fs hrow h6 (fun g hg => hF g (hF0 g hg)) (fun i b hi hb => ⟨hF b (hFs i b hi hb).1, (hFs i b hi hb).2⟩) hdis hr
theorem LOwn.turn (h : LOwn w F l s) {S : Nat → Prop} (ht : Turn S w w') (hS : ∀ b, F b → ¬ S b) : LOwn w' F l s := by
  obtain ⟨cs, Fs, hrow, h6, hF, hFs, hdis, hr⟩ := h
  refine ⟨cs, Fs, ht.owns hrow (fun g hg => hS g (hF g hg)), h6, hF, hFs, hdis, fun i x hx => (hr i x hx).turn ht (fun b hb => hS b (hFs i b (by
      rcases Nat.lt_or_ge i l.length with h | h
      · exact h
      · rw [List.getElem?_eq_none h] at hx; cases hx) hb).1)⟩
theorem LOwn.mono (h : LOwn w F l s) (hF : ∀ b, F b → F' b) : LOwn w F' l s := by
  obtain ⟨cs, Fs, hrow, h6, hF0, hFs, hdis, hr⟩ := h
  exact ⟨cs, Fs, hrow, h6, fun g hg => hF g (hF0 g hg), fun i b hi hb => ⟨hF b (hFs i b hi hb).1, (hFs i b hi hb).2⟩, hdis, hr⟩
theorem LOwn.nil (w : World) (F : Nat → Prop) : LOwn w F [] (.slice none 0 0) :=
  ⟨fun _ => #[], fun _ _ => False, World.ownsRow_nil _ _ _ _, (fun _ hi => absurd hi (Nat.not_lt_zero _)), (fun g hg => by cases hg), (fun _ _ hi => absurd hi (Nat.not_lt_zero _)), (fun _ _ _ hi => absurd hi (Nat.not_lt_zero _)), (fun i x hx => by simp at hx)⟩
/-- An own row is a row that reads so. -/
theorem LOwn.form (h : LOwn w F l s) : ∃ A cap, s = .slice A l.length cap := by
  obtain ⟨cs, Fs, hrow, _⟩ := h
  rcases hrow.2 with ⟨rfl, h0⟩ | ⟨g, cp, cur, rfl, _⟩
  · exact ⟨none, 0, by rw [h0]⟩
  · exact ⟨_, cp, rfl⟩
theorem own_cap {base e size : Nat} {A : Option Addr} {n cap : Nat} {xs : List Value} (h : w.ownsRow base e size (.slice A n cap) n xs) : n ≤ cap := by
  rcases h.2 with ⟨h0, h1⟩ | ⟨g, cp, cur, h0, _, _, h1, _⟩
  · injection h0 with _ h2 h3; omega
  · injection h0 with _ _ h3; omega
theorem rd_row {cs : Nat → Array Value} {A : Option Addr} {cap : Nat} (hrow : w.ownsRow 0 55 6 (.slice A l.length cap) l.length (flatV cs l.length)) (h6 : ∀ i, i < l.length → (cs i).size = 6) (hF : ∀ g, (Value.slice A l.length cap).ownBlock = some g → F g)
    (hr : ∀ i x, l[i]? = some x → VRd w F x (.agg (cs i))) : LRd w F l A l.length := by
  refine ⟨rfl, fun hn => ?_⟩
  obtain ⟨g, cp, hv, _, _⟩ := hrow.form hn
  injection hv with hv _ hcp
  subst hv
  subst hcp
  refine ⟨⟨g, 0, none⟩, rfl, hF g rfl, fun i x hx => ?_⟩
  have hi : i < l.length := by
    rcases Nat.lt_or_ge i l.length with h | h
    · exact h
    · rw [List.getElem?_eq_none h] at hx; cases hx
  refine ⟨cs i, h6 i hi, fun j hj => ?_, hr i x hx⟩
  have h1 := hrow.cellAt (i * 6 + j) (by omega)
  rw [flatV_at h6 hi hj] at h1
  rw [← h1]
  unfold Addr.add
  split <;> simp_all
theorem VOwn.rd (h : VOwn w F v u) : VRd w F v u := by
  induction h with
  | mk v F s cs Fs hrow h6 hF hFs hdis hr ih =>
    obtain ⟨A, cap, rfl⟩ : ∃ A cap, s = .slice A v.list.length cap := by
      rcases hrow.2 with ⟨rfl, h0⟩ | ⟨g, cp, cur, rfl, _⟩
      · exact ⟨none, 0, by rw [h0]⟩
      · exact ⟨_, cp, rfl⟩
    exact .of_list (own_cap hrow) (rd_row hrow h6 hF (fun i x hx => (ih i x hx).mono (fun b hb => (hFs i b (by
      rcases Nat.lt_or_ge i v.list.length with h | h
      · exact h
      · rw [List.getElem?_eq_none h] at hx; cases hx) hb).1)))
theorem LOwn.rd (h : LOwn w F l s) : ∃ A cap, s = .slice A l.length cap ∧ l.length ≤ cap ∧ LRd w F l A l.length := by
  obtain ⟨A, cap, rfl⟩ := h.form
  obtain ⟨cs, Fs, hrow, h6, hF, hFs, _, hr⟩ := h
  exact ⟨A, cap, rfl, own_cap hrow, rd_row hrow h6 hF (fun i x hx => (hr i x hx).rd.mono (fun b hb => (hFs i b (by
      rcases Nat.lt_or_ge i l.length with h | h
      · exact h
      · rw [List.getElem?_eq_none h] at hx; cases hx) hb).1))⟩
theorem own_snoc {w5 w6 : World} {F G : Nat → Prop} {l : List Val} {x : Val} {s sx : Value} {g4 c4 : Nat} {cs : Nat → Array Value} {Fs : Nat → Nat → Prop}
    (h6 : ∀ i, i < l.length → (cs i).size = 6) (hF : ∀ g, s.ownBlock = some g → F g) (hFs : ∀ i b, i < l.length → Fs i b → F b ∧ s.ownBlock ≠ some b) (hdis : ∀ i j b, i < l.length → j < l.length → i ≠ j → Fs i b → ¬ Fs j b)
    (hr : ∀ i y, l[i]? = some y → VOwn w5 (Fs i) y (.agg (cs i))) (hx : LOwn w5 G x.list sx) (hFG : ∀ b, F b → ¬ G b) (hFl : ∀ b, F b → b < w5.heap.size) (hGl : ∀ b, G b → b < w5.heap.size)
    (ho : w6.ownsRow 0 55 6 (.slice (some ⟨g4, 0, none⟩) (l.length + 1) c4) (l.length + 1) (flatV cs l.length ++ (cellsV x sx).toList)) (hg : w5.grownBy w6 s.ownBlock) (hl : s.ownBlock = some g4 ∨ w5.heap.size ≤ g4) :
    LOwn w6 (fun b => F b ∨ G b ∨ b = g4) (l ++ [x]) (.slice (some ⟨g4, 0, none⟩) (l.length + 1) c4) := by
  have hlen : (l ++ [x]).length = l.length + 1 := by simp
  have hcs : ∀ i, i < l.length → (fun i => if i < l.length then cs i else cellsV x sx) i = cs i := fun i hi => if_pos hi
  have hFn : ∀ i b, i < l.length → Fs i b → b ≠ g4 := fun i b hi hb e => by
    obtain ⟨h1, h2⟩ := hFs i b hi hb
    rcases hl with h | h
    · exact h2 (by rw [h, e])
    · have := hFl b h1; omega
  have hGn : ∀ b, G b → b ≠ g4 := fun b hb e => by
    rcases hl with h | h
    · exact hFG b (by rw [e]; exact hF g4 h) hb
    · have := hGl b hb; omega
  refine ⟨fun i => if i < l.length then cs i else cellsV x sx, fun i => if i < l.length then Fs i else G, ?_, fun i hi => ?_, fun g hg' => ?_, fun i b hi hb => ?_, fun i j b hi hj hne hb hb' => ?_, fun i y hy => ?_⟩
  · rw [hlen, flatV_succ, flatV_congr hcs, if_neg (Nat.lt_irrefl _)]
    exact ho
  · by_cases h : i < l.length
    · simp only [if_pos h]; exact h6 i h
    · simp only [if_neg h]; rfl
  · injection hg' with hg'
    exact .inr (.inr hg'.symm)
  · by_cases h : i < l.length
    · simp only [if_pos h] at hb
      exact ⟨.inl (hFs i b h hb).1, fun e => by injection e with e; exact hFn i b h hb e.symm⟩
    · simp only [if_neg h] at hb
      exact ⟨.inr (.inl hb), fun e => by injection e with e; exact hGn b hb e.symm⟩
  · by_cases h : i < l.length
    · simp only [if_pos h] at hb
      by_cases h' : j < l.length
      · simp only [if_pos h'] at hb'
        exact hdis i j b h h' hne hb hb'
      · simp only [if_neg h'] at hb'
        exact hFG b (hFs i b h hb).1 hb'
    · simp only [if_neg h] at hb
      by_cases h' : j < l.length
      · simp only [if_pos h'] at hb'
        exact hFG b (hFs j b h' hb').1 hb
      · omega
  · by_cases h : i < l.length
    · simp only [if_pos h]
      rw [List.getElem?_append_left h] at hy
      exact (hr i y hy).turn (Turn.of_grown hg) (fun b hb e => (hFs i b h hb).2 e.symm)
    · simp only [if_neg h]
      have hi : i = l.length := by
        rcases Nat.lt_or_ge i (l ++ [x]).length with h1 | h1
        · omega
        · rw [List.getElem?_eq_none h1] at hy; cases hy
      subst hi
      simp at hy
      subst hy
      exact (VOwn.of_list hx).turn (Turn.of_grown hg) (fun b hb e => hFG b (hF b e.symm) hb)
end
end Go.Proofs.YtmhjbicbdahllaaGreatDoor
