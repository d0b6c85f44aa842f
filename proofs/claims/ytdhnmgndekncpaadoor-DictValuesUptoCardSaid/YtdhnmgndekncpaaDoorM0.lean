/- A column of numbers: made, put, put as null; its length, its nulls. -/
import Derived.Test.YtdhnmgndekncpaaDoorL9
namespace Go.Proofs.YtdhnmgndekncpaaDoor
open Go Go.RowKit Go.Maps Go.WideMaps

/-- A column that is new. -/
def NewIs (C E sz : Nat) (w : World) (e : Ending) (w' : World) : Prop :=
  e = .returned (.pointer (some ⟨w.heap.size, 0, none⟩)) ∧ Col C E sz w' w.heap.size w.heap.size (.slice none 0 0) (.slice none 0 0) 0 [] [] [] 0 ∧ Below w.heap.size w w' ∧ w'.heap.size = w.heap.size + 1

set_option maxRecDepth 100000 in
set_option maxHeartbeats 400000 in
theorem newI_any (w : World) : Calls Tryd.prog 24 #[] w (NewIs 110 2 1 w) := by
  go_enter Tryd.func24, Tryd.ntmps24
  go_wp2
  go_ret
  refine ⟨rfl, ⟨heap_alloc_new w _, World.ownsRow_nil _ _ _ _, World.ownsRow_nil _ _ _ _, bits_nil, Nat.le_refl _⟩, (Below.refl w.heap.size w).alloc (Nat.le_refl _) _, by simp⟩

set_option maxRecDepth 100000 in
set_option maxHeartbeats 400000 in
theorem lenI_any {w : World} {B c nl : Nat} {v u : Value} {n : Nat} {vs : List Value} {bs : List Nat} {fs : List Bool} (h : Col 110 2 1 w B c v u n vs bs fs nl) : Calls Tryd.prog 27 #[.pointer (some ⟨c, 0, none⟩)] w fun e w' => e = .returned (.int .i64 (n : Int)) ∧ w' = w := by
  have c0 : w.cell? ⟨c, 0, none⟩ = some v := Lib.cell_of_heap h.blk 0
  obtain ⟨A, cp, rfl⟩ := slice_form h.vals
  go_enter Tryd.func27, Tryd.ntmps27
  go_wp2
  go_ret
  exact ⟨rfl, rfl⟩

set_option maxRecDepth 100000 in
set_option maxHeartbeats 400000 in
theorem nullsI_any {w : World} {B c nl : Nat} {v u : Value} {n : Nat} {vs : List Value} {bs : List Nat} {fs : List Bool} (h : Col 110 2 1 w B c v u n vs bs fs nl) : Calls Tryd.prog 28 #[.pointer (some ⟨c, 0, none⟩)] w fun e w' => e = .returned (.int .i64 (nl : Int)) ∧ w' = w := by
  have c2 : w.cell? ⟨c, 2, none⟩ = some (.int .i64 nl) := Lib.cell_of_heap h.blk 2
  go_enter Tryd.func28, Tryd.ntmps28
  go_wp2
  go_ret
  exact ⟨rfl, rfl⟩

set_option maxRecDepth 100000 in
set_option maxHeartbeats 400000 in
theorem putI_any {w : World} {B c nl : Nat} {v u : Value} {n : Nat} {vs : List Value} {bs : List Nat} {fs : List Bool} (h : Col 110 2 1 w B c v u n vs bs fs nl) (hl : fs.length = n) (hx : n < 17592186044416) (hnl : nl ≤ n) (x : Int) :
    Calls Tryd.prog 26 #[.pointer (some ⟨c, 0, none⟩), .int .i64 x] w (PutIs 110 2 1 B c v u n (vs ++ [.int .i64 x]) (fs ++ [false]) nl w) := by
  have hc := put_any h hl hx hnl x false
  have HC := Lib.hid hc
  clear hc hl
  go_enter Tryd.func26, Tryd.ntmps26
  go_wp2_with fail
  refine HC.out.mono ?_
  rintro e w' ⟨rfl, h2⟩
  go_wp2
  go_end0
  exact ⟨rfl, h2⟩

set_option maxRecDepth 100000 in
set_option maxHeartbeats 400000 in
theorem nullI_any {w : World} {B c nl : Nat} {v u : Value} {n : Nat} {vs : List Value} {bs : List Nat} {fs : List Bool} (h : Col 110 2 1 w B c v u n vs bs fs nl) (hl : fs.length = n) (hx : n < 17592186044416) (hnl : nl ≤ n) :
    Calls Tryd.prog 25 #[.pointer (some ⟨c, 0, none⟩)] w (PutIs 110 2 1 B c v u n (vs ++ [.int .i64 0]) (fs ++ [true]) (nl + 1) w) := by
  have hc := put_any h hl hx hnl 0 true
  have HC := Lib.hid hc
  clear hc hl
  go_enter Tryd.func25, Tryd.ntmps25
  go_wp2_with fail
  refine HC.out.mono ?_
  rintro e w' ⟨rfl, h2⟩
  go_wp2
  go_end0
  exact ⟨rfl, h2⟩

theorem Col.turn {C E sz : Nat} {S : Nat → Prop} {w w' : World} {B c nl : Nat} {v u : Value} {n : Nat} {vs : List Value} {bs : List Nat} {fs : List Bool} (h : Col C E sz w B c v u n vs bs fs nl) (ht : Turn S w w') (hc : ¬ S c) (hv : ∀ g, v.ownBlock = some g → ¬ S g) (hu : ∀ g, u.ownBlock = some g → ¬ S g) : Col C E sz w' B c v u n vs bs fs nl :=
  ⟨(ht.block c (blk_lt h.blk) hc).trans h.blk, ht.owns h.vals hv, ht.owns h.bits hu, h.isb, h.loc⟩
theorem Col.below {C E sz : Nat} {B' : Nat} {w w' : World} {B c nl : Nat} {v u : Value} {n : Nat} {vs : List Value} {bs : List Nat} {fs : List Bool} (h : Col C E sz w B c v u n vs bs fs nl) (ht : Below B' w w') (hB : w.heap.size ≤ B') : Col C E sz w' B c v u n vs bs fs nl :=
  h.turn (Turn.of_below ht) (by have := blk_lt h.blk; omega) (fun g hg => by have := (h.vals.lt g hg).2; omega) (fun g hg => by have := (h.bits.lt g hg).2; omega)
/-- What belongs to a column. -/
theorem SC_ge {C E sz : Nat} {w : World} {B c nl : Nat} {v u : Value} {n : Nat} {vs : List Value} {bs : List Nat} {fs : List Bool} (h : Col C E sz w B c v u n vs bs fs nl) : ∀ i, SC c v u i → B ≤ i ∧ i < w.heap.size := by
  rintro i (rfl | hi | hi)
  · exact ⟨h.loc, blk_lt h.blk⟩
  · exact h.vals.lt i hi.symm
  · exact h.bits.lt i hi.symm
end Go.Proofs.YtdhnmgndekncpaaDoor
