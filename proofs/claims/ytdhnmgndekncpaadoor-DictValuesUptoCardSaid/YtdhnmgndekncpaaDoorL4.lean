/- Of a value that is a whole number: its encoding. -/
import Derived.Test.YtdhnmgndekncpaaDoorL3
import Derived.Deep.DeepCutAuto
namespace Go.Proofs.YtdhnmgndekncpaaDoor
open Go Go.RowKit Go.Maps Go.WideMaps

theorem own_base {w : World} {B B' : Nat} {e : TypeId} {size : Nat} {v : Value} {n : Nat} {xs : List Value} (h : w.ownsRow B e size v n xs) (hB : B' ≤ B) : w.ownsRow B' e size v n xs := by
  refine ⟨h.1, ?_⟩
  rcases h.2 with h0 | ⟨g, cap, cur, rfl, hb, rest⟩
  · exact .inl h0
  · exact .inr ⟨g, cap, cur, rfl, Nat.le_trans hB hb, rest⟩

/-- The bytes of a whole number. -/
def wholeCells (n : Int) : List Value := .int .u8 2 :: (List.range 8).map (bigCell n)
def RowIs (B : Nat) (xs : List Value) (w : World) (e : Ending) (w' : World) : Prop := ∃ v, e = .returned v ∧ w'.ownsRow B 5 1 v xs.length xs ∧ Below B w w'

set_option maxRecDepth 100000 in
set_option maxHeartbeats 1000000 in
theorem lay_whole (n : Int) (w : World) (h0 : 0 ≤ n) (h1 : n ≤ 1000000) :
    Calls Tryd.prog 62 #[.slice none 0 0, .agg #[.int .i64 2, .bool false, .int .i64 n, .string ⟨#[]⟩, .string ⟨#[]⟩, .slice none 0 0]] w (RowIs w.heap.size (wholeCells n) w) := by
  have a2 := as134 n
  have a3 := as136 n
  have HBX := Lib.hid ((Below.refl w.heap.size w).alloc (Nat.le_refl _) (.cells #[.int .i64 2, .bool false, .int .i64 n, .string ⟨#[]⟩, .string ⟨#[]⟩, .slice none 0 0] 84))
  obtain ⟨W, HW⟩ := name_it (w.alloc (.cells #[.int .i64 2, .bool false, .int .i64 n, .string ⟨#[]⟩, .string ⟨#[]⟩, .slice none 0 0] 84))
  have hb0 : W.heap[w.heap.size]? = some (.cells #[.int .i64 2, .bool false, .int .i64 n, .string ⟨#[]⟩, .string ⟨#[]⟩, .slice none 0 0] 84 (0, 0)) := by rw [← HW.out]; exact heap_alloc_new w _
  have HB0 := Lib.hid hb0
  have hws : W.heap.size = w.heap.size + 1 := by rw [← HW.out]; simp
  have HWS := Lib.hid hws
  have hwl : w.heap.size ≤ W.heap.size := by omega
  have hwm : w.heap.size < W.heap.size := by omega
  rw [HW.out] at HBX
  clear hb0 hws
  have c0 : W.cell? ⟨w.heap.size, 0, none⟩ = some (.int .i64 2) := Lib.cell_of_heap HB0.out 0
  go_enter Tryd.func62, Tryd.ntmps62
  go_upto_region 1 with fail
  rw [HW.out]
  go_wp2_with (at_builtin; refine app_new rfl _ _ 106 rfl w.heap.size 5 (.int .u8 0) 1 1 Tryd.underlying106 infoByte rfl (by decide) _ _ _ rfl (World.ownsRow_nil W w.heap.size 5 1) hwl #[.int .u8 2] 1 1 rfl rfl (one_u8 _) (by omega) (by omega) (by decide) ?_)
  intro g4 cp4 w4 ho4 hg4 _
  have HO4 := Lib.hid (show w4.ownsRow w.heap.size 5 1 (.slice (some ⟨g4, 0, none⟩) 1 cp4) [Value.int .u8 2].length [.int .u8 2] from ho4)
  have HG4 := Lib.hid (show W.grownBy w4 none from hg4)
  have hb4 := (HG4.out.block w.heap.size hwm (fun e => by cases e)).trans HB0.out
  have HB4 := Lib.hid hb4
  have d0 : w4.cell? ⟨w.heap.size, 0, none⟩ = some (.int .i64 2) := Lib.cell_of_heap hb4 0
  have d1 : w4.cell? ⟨w.heap.size, 1, none⟩ = some (.bool false) := Lib.cell_of_heap hb4 1
  have d2 : w4.cell? ⟨w.heap.size, 2, none⟩ = some (.int .i64 n) := Lib.cell_of_heap hb4 2
  have d3 : w4.cell? ⟨w.heap.size, 3, none⟩ = some (.string ⟨#[]⟩) := Lib.cell_of_heap hb4 3
  have d4 : w4.cell? ⟨w.heap.size, 4, none⟩ = some (.string ⟨#[]⟩) := Lib.cell_of_heap hb4 4
  have d5 : w4.cell? ⟨w.heap.size, 5, none⟩ = some (.slice none 0 0) := Lib.cell_of_heap hb4 5
  have hs4 : W.heap.size ≤ w4.heap.size := HG4.out.size
  clear ho4 hg4 hb4 c0
  go_wp2_with fail
  refine (part_whole n _).mono ?_
  rintro e w5 ⟨rfl, hb5⟩
  have HO5 := Lib.hid (HO4.out.kept (⟨hb5.os, hb5.tape, hb5.output, hb5.size, fun i hi _ => hb5.block i hi⟩ : w4.grownBy w5 none) (Classical.em _))
  have hs5 := hb5.size
  have HB5 := Lib.hid hb5
  clear hb5 d0 d1 d2 d3 d4 d5
  go_wp2_with fail
  refine (big_any w.heap.size _ [Value.int .u8 2] n _ (by simp) HO5.out (by omega)).mono ?_
  rintro e w6 ⟨v6, rfl, ho6, ht6, _⟩
  have HO6 := Lib.hid (show w6.ownsRow w.heap.size 5 1 v6 (wholeCells n).length (wholeCells n) from by simpa [wholeCells] using ho6)
  have HT6 := Lib.hid ht6
  have hlo := HO5.out.lt g4 rfl
  clear ho6 ht6
  go_wp2
  go_ret
  refine ⟨v6, rfl, HO6.out, ?_⟩
  have h1 : Below w.heap.size w w4 := HBX.out.grown HG4.out hwl (fun k hk => by cases hk)
  have h2 : Below w.heap.size w w5 := h1.trans (HB5.out.mono (by omega))
  exact h2.trans (HT6.out.below (fun i _ hi => by
    have hi : some i = some g4 := hi
    injection hi with hi
    omega) (by omega))

set_option maxRecDepth 100000 in
set_option maxHeartbeats 400000 in
theorem encode_whole (n : Int) (w : World) (h0 : 0 ≤ n) (h1 : n ≤ 1000000) :
    Calls Tryd.prog 56 #[.agg #[.int .i64 2, .bool false, .int .i64 n, .string ⟨#[]⟩, .string ⟨#[]⟩, .slice none 0 0]] w fun e w' => ∃ v, e = .returned (.tuple #[v, .int .i64 0]) ∧ w'.ownsRow w.heap.size 5 1 v (wholeCells n).length (wholeCells n) ∧ Below w.heap.size w w' := by
  go_enter Tryd.func56, Tryd.ntmps56
  go_wp2_with fail
  refine (check_whole n _).mono ?_
  rintro e w1 ⟨rfl, hb1⟩
  have hs1 := hb1.size
  simp at hs1
  obtain ⟨hc, hf⟩ := bcell hb1
  go_wp2_with fail
  refine (lay_whole n _ h0 h1).mono ?_
  rintro e w2 ⟨v, rfl, ho, hb2⟩
  go_wp2
  go_ret2
  exact ⟨v, rfl, own_base ho (by omega), (((Below.refl w.heap.size w).alloc (Nat.le_refl _) _).trans (hb1.mono (by simp))).trans (hb2.mono (by omega))⟩

end Go.Proofs.YtdhnmgndekncpaaDoor
