/- Lists of structs in memory, of whatever element: they read; they lie in a row of their own. -/
import Derived.Test.YtmhjbicbdahllaaGreatDoorU0
namespace Go.Proofs.YtmhjbicbdahllaaGreatDoor
open Go Go.RowKit

/-- How an element x lies as the cells c, its own lists in blocks of F. -/
abbrev Lies (α : Type) := World → (Nat → Prop) → α → Array Value → Prop
/-- Such a relation bears that nothing in F turns, and more in F. -/
structure Lies.Good {α : Type} (R : Lies α) : Prop where
  keep : ∀ {w w' : World} {F : Nat → Prop} {x : α} {c : Array Value}, R w F x c → (∀ p : Addr, F p.block → w'.cell? p = w.cell? p) → R w' F x c
  mono : ∀ {w : World} {F F' : Nat → Prop} {x : α} {c : Array Value}, R w F x c → (∀ g, F g → F' g) → R w F' x c

variable {α : Type} {R : Lies α} {w w' : World} {F F' G : Nat → Prop} {l : List α} {A : Option Addr} {n sz : Nat} {s : Value} {E : Nat}

/-- The list l lies where a slice leads, sz cells an element. -/
def SRd (sz : Nat) (R : Lies α) (w : World) (F : Nat → Prop) (l : List α) (A : Option Addr) (n : Nat) : Prop :=
  n = l.length ∧ (0 < n → ∃ ad, A = some ad ∧ F ad.block ∧ ∀ i x, l[i]? = some x → ∃ c : Array Value, c.size = sz ∧ (∀ j, j < sz → w.cell? (ad.add (i * sz + j)) = c[j]?) ∧ R w F x c)
/-- .. of the slice s. -/
def SlR (sz : Nat) (R : Lies α) (w : World) (F : Nat → Prop) (l : List α) (s : Value) : Prop :=
  ∃ A cap, s = .slice A l.length cap ∧ l.length ≤ cap ∧ SRd sz R w F l A l.length

theorem idx_lt {l : List α} {i : Nat} {x : α} (h : l[i]? = some x) : i < l.length := (List.getElem?_eq_some_iff.1 h).1
theorem SRd.keep (hR : R.Good) (h : SRd sz R w F l A n) (hk : ∀ p : Addr, F p.block → w'.cell? p = w.cell? p) : SRd sz R w' F l A n :=
  ⟨h.1, fun hn => by
    obtain ⟨ad, e, hF, hc⟩ := h.2 hn
    refine ⟨ad, e, hF, fun i x hx => ?_⟩
    obtain ⟨c, h1, h2, h3⟩ := hc i x hx
    exact ⟨c, h1, fun j hj => (hk _ (by rw [block_of_add]; exact hF)).trans (h2 j hj), hR.keep h3 hk⟩⟩
theorem SRd.mono (hR : R.Good) (h : SRd sz R w F l A n) (hF : ∀ g, F g → F' g) : SRd sz R w F' l A n :=
  ⟨h.1, fun hn => by
    obtain ⟨ad, e, hf, hc⟩ := h.2 hn
    refine ⟨ad, e, hF _ hf, fun i x hx => ?_⟩
    obtain ⟨c, h1, h2, h3⟩ := hc i x hx
    exact ⟨c, h1, h2, hR.mono h3 hF⟩⟩
theorem SRd.under {B : Nat} (hR : R.Good) (h : SRd sz R w F l A n) (hb : Below B w w') (hF : ∀ g, F g → g < B) : SRd sz R w' F l A n := h.keep hR fun _ hp => hb.cell (hF _ hp)
theorem SRd.drewN (hR : R.Good) (h : SRd sz R w F l A n) (m : Nat) : SRd sz R (w.drewN m) F l A n := h.keep hR fun _ _ => rfl
theorem SRd.nil (sz : Nat) (R : Lies α) (w : World) (F : Nat → Prop) (A : Option Addr) : SRd sz R w F [] A 0 := ⟨rfl, fun h => absurd h (by omega)⟩
theorem SlR.nil (sz : Nat) (R : Lies α) (w : World) (F : Nat → Prop) : SlR sz R w F [] (.slice none 0 0) := ⟨none, 0, rfl, Nat.le_refl _, SRd.nil ..⟩
theorem SlR.keep (hR : R.Good) (h : SlR sz R w F l s) (hk : ∀ p : Addr, F p.block → w'.cell? p = w.cell? p) : SlR sz R w' F l s := by
  obtain ⟨A, cap, e, hc, h⟩ := h
  exact ⟨A, cap, e, hc, h.keep hR hk⟩
theorem SlR.mono (hR : R.Good) (h : SlR sz R w F l s) (hF : ∀ g, F g → F' g) : SlR sz R w F' l s := by
  obtain ⟨A, cap, e, hc, h⟩ := h
  exact ⟨A, cap, e, hc, h.mono hR hF⟩
theorem SlR.under {B : Nat} (hR : R.Good) (h : SlR sz R w F l s) (hb : Below B w w') (hF : ∀ g, F g → g < B) : SlR sz R w' F l s := h.keep hR fun _ hp => hb.cell (hF _ hp)
theorem SlR.turn {S : Nat → Prop} (hR : R.Good) (h : SlR sz R w F l s) (ht : Turn S w w') (hl : ∀ g, F g → g < w.heap.size) (hS : ∀ g, F g → ¬ S g) : SlR sz R w' F l s := h.keep hR fun _ hp => ht.cell (hl _ hp) (hS _ hp)
theorem SRd.at_ (h : SRd sz R w F l A n) {i : Nat} {x : α} (hx : l[i]? = some x) : ∃ ad c, A = some ad ∧ F ad.block ∧ c.size = sz ∧ (∀ j, j < sz → w.cell? (ad.add (i * sz + j)) = c[j]?) ∧ R w F x c := by
  have hi := idx_lt hx
  obtain ⟨ad, e, hF, hc⟩ := h.2 (by rw [h.1]; omega)
  obtain ⟨c, h1, h2, h3⟩ := hc i x hx
  exact ⟨ad, c, e, hF, h1, h2, h3⟩

/-- Cells side by side. -/
def flatC (cs : Nat → Array Value) (n : Nat) : List Value := (List.range n).flatMap fun i => (cs i).toList
theorem flatC_succ (cs : Nat → Array Value) (n : Nat) : flatC cs (n + 1) = flatC cs n ++ (cs n).toList := by unfold flatC; rw [List.range_succ]; simp
theorem flatC_congr {cs ds : Nat → Array Value} {n : Nat} (h : ∀ i, i < n → cs i = ds i) : flatC cs n = flatC ds n := by
  unfold flatC
  rw [List.flatMap_def, List.flatMap_def, List.map_congr_left fun i hi => by rw [h i (List.mem_range.1 hi)]]
theorem flatC_length {cs : Nat → Array Value} {n sz : Nat} (h : ∀ i, i < n → (cs i).size = sz) : (flatC cs n).length = n * sz := by
  induction n with
  | zero => simp [flatC]
  | succ n ih => rw [flatC_succ, List.length_append, ih (fun i hi => h i (by omega)), Array.length_toList, h n (by omega), Nat.succ_mul]
theorem flatC_at {cs : Nat → Array Value} {n i j sz : Nat} (h : ∀ i, i < n → (cs i).size = sz) (hi : i < n) (hj : j < sz) : (flatC cs n)[i * sz + j]? = (cs i)[j]? := by
  induction n with
  | zero => omega
  | succ n ih =>
    have hl := flatC_length (cs := cs) (n := n) (sz := sz) (fun i hi => h i (by omega))
    rw [flatC_succ]
    by_cases hin : i = n
    · subst hin
      rw [List.getElem?_append_right (by omega), hl, Nat.add_sub_cancel_left]
      simp
    · have h1 : (i + 1) * sz ≤ n * sz := Nat.mul_le_mul_right sz (by omega)
      rw [Nat.succ_mul] at h1
      rw [List.getElem?_append_left (by omega)]
      exact ih (fun i hi => h i (by omega)) (by omega)

/-- The list l lies in a row of its own; its elements' lists in blocks of F that are not the row's. -/
def SOwn (E sz : Nat) (R : Lies α) (w : World) (F : Nat → Prop) (l : List α) (s : Value) : Prop :=
  ∃ cs : Nat → Array Value, w.ownsRow 0 E sz s l.length (flatC cs l.length) ∧ (∀ i, i < l.length → (cs i).size = sz) ∧ (∀ g, s.ownBlock = some g → F g) ∧
    ∀ i x, l[i]? = some x → R w (fun b => F b ∧ s.ownBlock ≠ some b) x (cs i)
theorem SOwn.form (h : SOwn E sz R w F l s) : ∃ A cap, s = .slice A l.length cap := by
  obtain ⟨cs, hrow, _⟩ := h
  exact slice_form hrow
theorem SOwn.nil (E sz : Nat) (R : Lies α) (w : World) (F : Nat → Prop) : SOwn E sz R w F [] (.slice none 0 0) :=
  ⟨fun _ => #[], World.ownsRow_nil _ _ _ _, (fun _ hi => absurd hi (Nat.not_lt_zero _)), (fun g hg => by cases hg), (fun i x hx => by simp at hx)⟩
theorem SOwn.turn {S : Nat → Prop} (hR : R.Good) (h : SOwn E sz R w F l s) (ht : Turn S w w') (hl : ∀ b, F b → b < w.heap.size) (hS : ∀ b, F b → ¬ S b) : SOwn E sz R w' F l s := by
  obtain ⟨cs, hrow, h6, hF, hr⟩ := h
  exact ⟨cs, ht.owns hrow (fun g hg => hS g (hF g hg)), h6, hF, fun i x hx => hR.keep (hr i x hx) fun p hp => ht.cell (hl _ hp.1) (hS _ hp.1)⟩
theorem SOwn.mono (hR : R.Good) (h : SOwn E sz R w F l s) (hF : ∀ b, F b → F' b) : SOwn E sz R w F' l s := by
  obtain ⟨cs, hrow, h6, hF0, hr⟩ := h
  exact ⟨cs, hrow, h6, fun g hg => hF g (hF0 g hg), fun i x hx => hR.mono (hr i x hx) fun g hg => ⟨hF g hg.1, hg.2⟩⟩
theorem owned_cap {base e size : Nat} {A : Option Addr} {n cap : Nat} {xs : List Value} (h : w.ownsRow base e size (.slice A n cap) n xs) : n ≤ cap := by
  rcases h.2 with ⟨h0, h1⟩ | ⟨g, cp, cur, h0, _, _, h1, _⟩
  · injection h0 with _ h2 h3; omega
  · injection h0 with _ _ h3; omega
/-- A row of one's own is a row that reads so. -/
theorem SOwn.rd (hR : R.Good) (h : SOwn E sz R w F l s) : SlR sz R w F l s := by
  obtain ⟨A, cap, rfl⟩ := h.form
  obtain ⟨cs, hrow, h6, hF, hr⟩ := h
  refine ⟨A, cap, rfl, owned_cap hrow, rfl, fun hn => ?_⟩
  obtain ⟨g, cp, hv, _, _⟩ := hrow.form hn
  injection hv with hv _ hcp
  subst hv
  subst hcp
  refine ⟨⟨g, 0, none⟩, rfl, hF g rfl, fun i x hx => ?_⟩
  have hi := idx_lt hx
  refine ⟨cs i, h6 i hi, fun j hj => ?_, hR.mono (hr i x hx) fun _ h => h.1⟩
  have hij : i * sz + j < l.length * sz := by
    have h1 : (i + 1) * sz ≤ l.length * sz := Nat.mul_le_mul_right sz (by omega)
    rw [Nat.succ_mul] at h1
    omega
  have h1 := hrow.cellAt (i * sz + j) hij
  rw [flatC_at h6 hi hj] at h1
  rw [← h1]
  unfold Addr.add
  split <;> simp_all
/-- One more element: what 'append' makes of a row of one's own. -/
theorem SOwn.snoc {w5 w6 : World} {x : α} {c : Array Value} {g4 c4 : Nat} (hR : R.Good) (h : SOwn E sz R w5 F l s) (hx : R w5 G x c) (hc : c.size = sz)
    (hGs : ∀ b, G b → s.ownBlock ≠ some b) (hFl : ∀ b, F b → b < w5.heap.size) (hGl : ∀ b, G b → b < w5.heap.size)
    (ho : ∀ cs : Nat → Array Value, w5.ownsRow 0 E sz s l.length (flatC cs l.length) → w6.ownsRow 0 E sz (.slice (some ⟨g4, 0, none⟩) (l.length + 1) c4) (l.length + 1) (flatC cs l.length ++ c.toList)) (hg : w5.grownBy w6 s.ownBlock) (hl : s.ownBlock = some g4 ∨ w5.heap.size ≤ g4) :
    SOwn E sz R w6 (fun b => F b ∨ G b ∨ b = g4) (l ++ [x]) (.slice (some ⟨g4, 0, none⟩) (l.length + 1) c4) := by
  obtain ⟨cs, hrow, h6, hF, hr⟩ := h
  have hlen : (l ++ [x]).length = l.length + 1 := by simp
  have hcs : ∀ i, i < l.length → (fun i => if i < l.length then cs i else c) i = cs i := fun i hi => if_pos hi
  have hFn : ∀ b, F b → s.ownBlock ≠ some b → b ≠ g4 := fun b hb h2 e => by
    rcases hl with h | h
    · exact h2 (by rw [h, e])
    · have := hFl b hb; omega
  have hGn : ∀ b, G b → b ≠ g4 := fun b hb e => by
    rcases hl with h | h
    · exact hGs b hb (by rw [h, e])
    · have := hGl b hb; omega
  refine ⟨fun i => if i < l.length then cs i else c, ?_, fun i hi => ?_, fun g hg' => ?_, fun i y hy => ?_⟩
  · rw [hlen, flatC_succ, flatC_congr hcs, if_neg (Nat.lt_irrefl _)]
    exact ho cs hrow
  · by_cases h : i < l.length
    · simp only [if_pos h]; exact h6 i h
    · simp only [if_neg h]; exact hc
  · injection hg' with hg'
    exact .inr (.inr hg'.symm)
  · by_cases h : i < l.length
    · simp only [if_pos h]
      rw [List.getElem?_append_left h] at hy
      refine hR.mono (hR.keep (hr i y hy) (w' := w6) fun p hp => (Turn.of_grown hg).cell (hFl _ hp.1) fun e => hp.2 e.symm) fun b hb => ⟨.inl hb.1, fun e => ?_⟩
      injection e with e
      exact hFn b hb.1 hb.2 e.symm
    · simp only [if_neg h]
      have hi : i = l.length := by
        have := idx_lt hy
        omega
      subst hi
      simp at hy
      subst hy
      refine hR.mono (hR.keep hx (w' := w6) fun p hp => (Turn.of_grown hg).cell (hGl _ hp) fun e => hGs _ hp e.symm) fun b hb => ⟨.inr (.inl hb), fun e => ?_⟩
      injection e with e
      exact hGn b hb e.symm

/-- A text; a whole number. -/
def TxR : Lies ByteArray := fun _ _ t c => c = #[.string t]
theorem TxR.good : TxR.Good := ⟨fun h _ => h, fun h _ => h⟩
def IxR : Lies Int := fun _ _ t c => c = #[.int .i64 t]
theorem IxR.good : IxR.Good := ⟨fun h _ => h, fun h _ => h⟩
end Go.Proofs.YtmhjbicbdahllaaGreatDoor
