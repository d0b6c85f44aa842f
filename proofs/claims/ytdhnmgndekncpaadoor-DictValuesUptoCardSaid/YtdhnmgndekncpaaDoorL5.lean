/- A dictionary of values: made; the number of a whole number. -/
import Derived.Test.YtdhnmgndekncpaaDoorL4
import Derived.Laws.IdiomStrings
import Derived.Lib.BufferRead
import Derived.StillTailTactics
namespace Go.Proofs.YtdhnmgndekncpaaDoor
open Go Go.RowKit Go.Maps Go.WideMaps

/-- A dictionary of values: block p leads to one of texts. -/
structure DictV (w : World) (B p b m : Nat) (v : Value) (ks : List ByteArray) (D : DataW Unit) : Prop where
  blk : w.heap[p]? = some (.cells #[.pointer (some ⟨b, 0, none⟩)] 91 (0, 0))
  dict : DictS w B b m v ks D
  lop : B ≤ p

set_option maxRecDepth 100000 in
set_option maxHeartbeats 400000 in
theorem newV_any (w : World) : Calls Tryd.prog 45 #[] w fun e w' => e = .returned (.pointer (some ⟨w.heap.size + 2, 0, none⟩)) ∧ DictV w' w.heap.size (w.heap.size + 2) (w.heap.size + 1) w.heap.size (.slice none 0 0) [] (.map []) ∧ Below w.heap.size w w' ∧ w'.heap.size = w.heap.size + 3 := by
  go_enter Tryd.func45, Tryd.ntmps45
  go_wp2_with fail
  refine (newS_size w).mono ?_
  rintro e w1 ⟨rfl, hd, hb1, hs⟩
  go_wp2
  go_ret
  refine ⟨by rw [← hs]; rfl, ⟨?_, ?_, by omega⟩, ?_, by simp [hs]⟩
  · rw [← hs]
    exact heap_alloc_new w1 _
  · exact hd.below ((Below.refl w1.heap.size w1).alloc (Nat.le_refl _) _) hd.lt.1 hd.lt.2.1 (fun g hg => (hd.lt.2.2 g hg).2)
  · exact hb1.alloc (by omega) _

end Go.Proofs.YtdhnmgndekncpaaDoor
