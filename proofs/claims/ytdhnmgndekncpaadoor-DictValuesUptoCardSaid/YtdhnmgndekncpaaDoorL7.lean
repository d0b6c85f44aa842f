/- A column of numbers: in memory; made; its length and its nulls. -/
import Derived.Test.YtdhnmgndekncpaaDoorL6
namespace Go.Proofs.YtdhnmgndekncpaaDoor
open Go Go.RowKit Go.Maps Go.WideMaps

/-- A column in memory: its struct in block c, its values in the slice v, its null bits in the slice u. -/
structure ColI (w : World) (B c : Nat) (v u : Value) (xs bs : List Int) (nl : Nat) : Prop where
  blk : w.heap[c]? = some (.cells #[v, u, .int .i64 nl] 110 (0, 0))
  vals : w.ownsRow B 2 1 v xs.length (xs.map (.int .i64))
  bits : w.ownsRow B 112 1 u bs.length (bs.map (.int .u64))
  loc : B ≤ c

set_option maxRecDepth 100000 in
set_option maxHeartbeats 400000 in
theorem newC_any (w : World) : Calls Tryd.prog 24 #[] w fun e w' => e = .returned (.pointer (some ⟨w.heap.size, 0, none⟩)) ∧ ColI w' w.heap.size w.heap.size (.slice none 0 0) (.slice none 0 0) [] [] 0 ∧ Below w.heap.size w w' ∧ w'.heap.size = w.heap.size + 1 := by
  go_enter Tryd.func24, Tryd.ntmps24
  go_wp2
  go_ret
  refine ⟨rfl, ⟨heap_alloc_new w _, World.ownsRow_nil _ _ _ _, World.ownsRow_nil _ _ _ _, Nat.le_refl _⟩, (Below.refl w.heap.size w).alloc (Nat.le_refl _) _, by simp⟩

set_option maxRecDepth 100000 in
set_option maxHeartbeats 400000 in
theorem lenC_any {w : World} {B c nl : Nat} {v u : Value} {xs bs : List Int} (h : ColI w B c v u xs bs nl) : Calls Tryd.prog 27 #[.pointer (some ⟨c, 0, none⟩)] w fun e w' => e = .returned (.int .i64 ((xs.length : Nat) : Int)) ∧ w' = w := by
  have c0 : w.cell? ⟨c, 0, none⟩ = some v := Lib.cell_of_heap h.blk 0
  have hf : ∃ A cp, v = .slice A xs.length cp := by
    rcases h.vals.2 with ⟨rfl, h0⟩ | ⟨g, cp, cur, rfl, _⟩
    · exact ⟨none, 0, by rw [h0]⟩
    · exact ⟨_, cp, rfl⟩
  obtain ⟨A, cp, rfl⟩ := hf
  go_enter Tryd.func27, Tryd.ntmps27
  go_wp2
  go_ret
  exact ⟨rfl, rfl⟩

set_option maxRecDepth 100000 in
set_option maxHeartbeats 400000 in
theorem nullsC_any {w : World} {B c nl : Nat} {v u : Value} {xs bs : List Int} (h : ColI w B c v u xs bs nl) : Calls Tryd.prog 28 #[.pointer (some ⟨c, 0, none⟩)] w fun e w' => e = .returned (.int .i64 nl) ∧ w' = w := by
  have c2 : w.cell? ⟨c, 2, none⟩ = some (.int .i64 nl) := Lib.cell_of_heap h.blk 2
  go_enter Tryd.func28, Tryd.ntmps28
  go_wp2
  go_ret
  exact ⟨rfl, rfl⟩
end Go.Proofs.YtdhnmgndekncpaaDoor
