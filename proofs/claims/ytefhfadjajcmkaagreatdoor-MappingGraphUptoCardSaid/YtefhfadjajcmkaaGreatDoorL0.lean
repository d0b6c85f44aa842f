/- A dictionary's map tells each key its place; what may turn beside it. -/
import Derived.Maps.OwnSet
import Derived.Maps.Views
import Derived.Below
import Derived.Laws.OwnMore
namespace Go.Proofs.YtefhfadjajcmkaaGreatDoor
open Go Go.RowKit Go.Maps

section
variable {K : Type} [DecidableEq K] (V : K → Prop) (lit : K → Lit)

/-- A key's place in the list. -/
def place {K : Type} [DecidableEq K] (ks : List K) (x : K) : Nat := ks.idxOf x

/-- The map D tells of each key its place in the list, and has no others. -/
def IdsOf (D : DataW Unit) (ks : List K) : Prop :=
  IsMap D ∧ ∀ x, V x → Maps.has D (lit x) = decide (x ∈ ks) ∧ (x ∈ ks → D.atKey (lit x) (.lit (.int .i64 0)) = .lit (.int .i64 ((place ks x : Nat) : Int)))

variable {V lit}
theorem ids_empty : IdsOf V lit (.map []) ([] : List K) := ⟨isMap_empty, fun x _ => ⟨rfl, fun h => by cases h⟩⟩
theorem ids_put (hi : ∀ x y, V x → V y → lit x = lit y → x = y) (hk : ∀ x, V x → WideAt.IsKeyLit (lit x)) {D : DataW Unit} {ks : List K} (h : IdsOf V lit D ks) {x : K} (hv : V x) (hx : x ∉ ks) :
    IdsOf V lit (D.put (lit x) (.lit (.int .i64 ((ks.length : Nat) : Int)))) (ks ++ [x]) := by
  refine ⟨h.1.put _ _, fun y hy => ?_⟩
  by_cases e : y = x
  · subst e
    rw [has_put_same h.1 (hk _ hy), atKey_put_same h.1 (hk _ hy)]
    exact ⟨by simp, fun _ => by unfold place; rw [List.idxOf_append, if_neg hx]; simp⟩
  · have hne : lit y ≠ lit x := fun he => e (hi _ _ hy hv he)
    rw [has_put_other hne, atKey_put_other hne]
    obtain ⟨h1, h2⟩ := h.2 y hy
    refine ⟨by rw [h1]; simp [e], fun hm => ?_⟩
    have hm' : y ∈ ks := by simpa [e] using hm
    rw [h2 hm']; unfold place; rw [List.idxOf_append, if_pos hm']
end

/-- From w to w' nothing has turned but the blocks in S, and new ones. -/
structure Turn (S : Nat → Prop) (w w' : World) : Prop where
  os : w'.os = w.os
  tape : w'.tape = w.tape
  output : w'.output = w.output
  size : w.heap.size ≤ w'.heap.size
  block : ∀ k, k < w.heap.size → ¬ S k → w'.heap[k]? = w.heap[k]?

section
variable {S S' : Nat → Prop} {a b c w w' : World}
theorem Turn.refl (S : Nat → Prop) (w : World) : Turn S w w := ⟨rfl, rfl, rfl, Nat.le_refl _, fun _ _ _ => rfl⟩
theorem Turn.trans (h : Turn S a b) (k : Turn S b c) : Turn S a c :=
  ⟨k.os.trans h.os, k.tape.trans h.tape, k.output.trans h.output, Nat.le_trans h.size k.size, fun i hi hs => (k.block i (Nat.lt_of_lt_of_le hi h.size) hs).trans (h.block i hi hs)⟩
/-- What turns later may be what was new before. -/
theorem Turn.andThen (h : Turn S a b) (k : Turn S' b c) (hs : ∀ i, i < a.heap.size → S' i → S i) : Turn S a c :=
  ⟨k.os.trans h.os, k.tape.trans h.tape, k.output.trans h.output, Nat.le_trans h.size k.size, fun i hi hn => (k.block i (Nat.lt_of_lt_of_le hi h.size) (fun hx => hn (hs i hi hx))).trans (h.block i hi hn)⟩
theorem Turn.mono (h : Turn S a b) (hs : ∀ i, i < a.heap.size → S i → S' i) : Turn S' a b := ⟨h.os, h.tape, h.output, h.size, fun i hi hn => h.block i hi (fun hx => hn (hs i hi hx))⟩
theorem Turn.drew (h : Turn S a w) : Turn S a w.drew := ⟨h.os, h.tape, h.output, h.size, h.block⟩
theorem Turn.alloc (h : Turn S a w) (o : Obj) : Turn S a (w.alloc o) :=
  ⟨h.os, h.tape, h.output, Nat.le_trans h.size (by simp), fun i hi hn => (Below.heap_alloc w o i (Nat.lt_of_lt_of_le hi h.size)).trans (h.block i hi hn)⟩
theorem Turn.setCell (h : Turn S a w) {p : Addr} (hp : a.heap.size ≤ p.block ∨ S p.block) (u : Value) : Turn S a (w.setCell p u) :=
  ⟨h.os, h.tape, h.output, by simpa using h.size, fun i hi hn => (Below.heap_setCell w p u i (fun e => by subst e; rcases hp with hp | hp; omega; exact hn hp)).trans (h.block i hi hn)⟩
theorem Turn.of_grown {row : Option Nat} (h : w.grownBy w' row) : Turn (fun i => some i = row) w w' := ⟨h.os, h.tape, h.output, h.size, h.block⟩
theorem Turn.of_below {B : Nat} (h : Below B w w') : Turn (fun i => B ≤ i) w w' := ⟨h.os, h.tape, h.output, h.size, fun i _ hn => h.block i (by omega)⟩
theorem Turn.below {B : Nat} (h : Turn S w w') (hs : ∀ i, i < w.heap.size → S i → B ≤ i) (hB : B ≤ w.heap.size) : Below B w w' := ⟨h.os, h.tape, h.output, h.size, fun i hi => h.block i (by omega) (fun hx => by have := hs i (by omega) hx; omega)⟩
theorem Turn.cell (h : Turn S w w') {p : Addr} (hp : p.block < w.heap.size) (hs : ¬ S p.block) : w'.cell? p = w.cell? p := World.cell?_of_block (h.block _ hp hs)
theorem Turn.owns {base : Nat} {e : TypeId} {size : Nat} {v : Value} {n : Nat} {xs : List Value} (h : Turn S w w') (ho : w.ownsRow base e size v n xs) (hs : ∀ k, v.ownBlock = some k → ¬ S k) : w'.ownsRow base e size v n xs := by
  refine ⟨ho.1, ?_⟩
  rcases ho.2 with h0 | ⟨g, cap, cur, rfl, hb, hg, rest⟩
  · exact .inl h0
  · refine .inr ⟨g, cap, cur, rfl, hb, ?_, rest⟩
    have hlt := (ho.lt g rfl).2
    rw [h.block g hlt (hs g rfl)]
    exact hg
theorem Turn.map {P : Program} {k : TypeId} {R : Value → Option (DataW Unit × List MemPlace)} {m n : Nat} {D : DataW Unit} (h : Turn S w w') (ho : w.ownsMap P k R m n D) (hs : ¬ S m) : w'.ownsMap P k R m n D := by
  have hlt := ho.lt
  obtain ⟨es, clock, hb, r⟩ := ho
  exact ⟨es, clock, (h.block m hlt hs).trans hb, r⟩
end

end Go.Proofs.YtefhfadjajcmkaaGreatDoor
