/- Triples: what is loaded from a list; the closures of Load; ContainsFunc. -/
import Derived.Test.YtijciakkfpjjbaaGreatDoorM4
import Derived.BigRegion
import Derived.Test.YtijciakkfpjjbaaGreatDoorM8
namespace Go.Proofs.YtijciakkfpjjbaaGreatDoor
open Go Go.RowKit

theorem below_new3 (w : World) (a b c : Obj) : Below w.heap.size w (((w.alloc a).alloc b).alloc c) := (((Below.refl _ _).alloc (Nat.le_refl _) _).alloc (by simp) _).alloc (by simp; omega) _

theorem as_none_none (y : Value) (w : World) : (Instr.typeAssert (.iface 168 y) 20 168 true).run Tryz.prog w = .ok (.tuple #[y, .bool true]) w := by kernel_rfl
theorem as_boolean_none (y : Value) (w : World) : (Instr.typeAssert (.iface 164 y) 20 168 true).run Tryz.prog w = .ok (.tuple #[.agg #[], .bool false]) w := by kernel_rfl
theorem as_boolean_boolean (y : Value) (w : World) : (Instr.typeAssert (.iface 164 y) 20 164 true).run Tryz.prog w = .ok (.tuple #[y, .bool true]) w := by kernel_rfl
theorem as_whole_none (y : Value) (w : World) : (Instr.typeAssert (.iface 158 y) 20 168 true).run Tryz.prog w = .ok (.tuple #[.agg #[], .bool false]) w := by kernel_rfl
theorem as_whole_boolean (y : Value) (w : World) : (Instr.typeAssert (.iface 158 y) 20 164 true).run Tryz.prog w = .ok (.tuple #[.bool false, .bool false]) w := by kernel_rfl
theorem as_whole_whole (y : Value) (w : World) : (Instr.typeAssert (.iface 158 y) 20 158 true).run Tryz.prog w = .ok (.tuple #[y, .bool true]) w := by kernel_rfl
theorem as_broken_none (y : Value) (w : World) : (Instr.typeAssert (.iface 159 y) 20 168 true).run Tryz.prog w = .ok (.tuple #[.agg #[], .bool false]) w := by kernel_rfl
theorem as_broken_boolean (y : Value) (w : World) : (Instr.typeAssert (.iface 159 y) 20 164 true).run Tryz.prog w = .ok (.tuple #[.bool false, .bool false]) w := by kernel_rfl
theorem as_broken_whole (y : Value) (w : World) : (Instr.typeAssert (.iface 159 y) 20 158 true).run Tryz.prog w = .ok (.tuple #[.int .i64 0, .bool false]) w := by kernel_rfl
theorem as_broken_broken (y : Value) (w : World) : (Instr.typeAssert (.iface 159 y) 20 159 true).run Tryz.prog w = .ok (.tuple #[y, .bool true]) w := by kernel_rfl
theorem as_words_none (y : Value) (w : World) : (Instr.typeAssert (.iface 169 y) 20 168 true).run Tryz.prog w = .ok (.tuple #[.agg #[], .bool false]) w := by kernel_rfl
theorem as_words_boolean (y : Value) (w : World) : (Instr.typeAssert (.iface 169 y) 20 164 true).run Tryz.prog w = .ok (.tuple #[.bool false, .bool false]) w := by kernel_rfl
theorem as_words_whole (y : Value) (w : World) : (Instr.typeAssert (.iface 169 y) 20 158 true).run Tryz.prog w = .ok (.tuple #[.int .i64 0, .bool false]) w := by kernel_rfl
theorem as_words_broken (y : Value) (w : World) : (Instr.typeAssert (.iface 169 y) 20 159 true).run Tryz.prog w = .ok (.tuple #[.string ⟨#[]⟩, .bool false]) w := by kernel_rfl
theorem as_words_words (y : Value) (w : World) : (Instr.typeAssert (.iface 169 y) 20 169 true).run Tryz.prog w = .ok (.tuple #[y, .bool true]) w := by kernel_rfl
theorem as_list_none (y : Value) (w : World) : (Instr.typeAssert (.iface 160 y) 20 168 true).run Tryz.prog w = .ok (.tuple #[.agg #[], .bool false]) w := by kernel_rfl
theorem as_list_boolean (y : Value) (w : World) : (Instr.typeAssert (.iface 160 y) 20 164 true).run Tryz.prog w = .ok (.tuple #[.bool false, .bool false]) w := by kernel_rfl
theorem as_list_whole (y : Value) (w : World) : (Instr.typeAssert (.iface 160 y) 20 158 true).run Tryz.prog w = .ok (.tuple #[.int .i64 0, .bool false]) w := by kernel_rfl
theorem as_list_broken (y : Value) (w : World) : (Instr.typeAssert (.iface 160 y) 20 159 true).run Tryz.prog w = .ok (.tuple #[.string ⟨#[]⟩, .bool false]) w := by kernel_rfl
theorem as_list_words (y : Value) (w : World) : (Instr.typeAssert (.iface 160 y) 20 169 true).run Tryz.prog w = .ok (.tuple #[.string ⟨#[]⟩, .bool false]) w := by kernel_rfl
theorem as_list_list (y : Value) (w : World) : (Instr.typeAssert (.iface 160 y) 20 160 true).run Tryz.prog w = .ok (.tuple #[y, .bool true]) w := by kernel_rfl
theorem as_thing_none (y : Value) (w : World) : (Instr.typeAssert (.iface 162 y) 20 168 true).run Tryz.prog w = .ok (.tuple #[.agg #[], .bool false]) w := by kernel_rfl
theorem as_thing_boolean (y : Value) (w : World) : (Instr.typeAssert (.iface 162 y) 20 164 true).run Tryz.prog w = .ok (.tuple #[.bool false, .bool false]) w := by kernel_rfl
theorem as_thing_whole (y : Value) (w : World) : (Instr.typeAssert (.iface 162 y) 20 158 true).run Tryz.prog w = .ok (.tuple #[.int .i64 0, .bool false]) w := by kernel_rfl
theorem as_thing_broken (y : Value) (w : World) : (Instr.typeAssert (.iface 162 y) 20 159 true).run Tryz.prog w = .ok (.tuple #[.string ⟨#[]⟩, .bool false]) w := by kernel_rfl
theorem as_thing_words (y : Value) (w : World) : (Instr.typeAssert (.iface 162 y) 20 169 true).run Tryz.prog w = .ok (.tuple #[.string ⟨#[]⟩, .bool false]) w := by kernel_rfl
theorem as_thing_list (y : Value) (w : World) : (Instr.typeAssert (.iface 162 y) 20 160 true).run Tryz.prog w = .ok (.tuple #[.slice none 0 0, .bool false]) w := by kernel_rfl
theorem as_thing_thing (y : Value) (w : World) : (Instr.typeAssert (.iface 162 y) 20 162 true).run Tryz.prog w = .ok (.tuple #[y, .bool true]) w := by kernel_rfl
theorem as_literal_none (y : Value) (w : World) : (Instr.typeAssert (.iface 172 y) 20 168 true).run Tryz.prog w = .ok (.tuple #[.agg #[], .bool false]) w := by kernel_rfl
theorem as_literal_boolean (y : Value) (w : World) : (Instr.typeAssert (.iface 172 y) 20 164 true).run Tryz.prog w = .ok (.tuple #[.bool false, .bool false]) w := by kernel_rfl
theorem as_literal_whole (y : Value) (w : World) : (Instr.typeAssert (.iface 172 y) 20 158 true).run Tryz.prog w = .ok (.tuple #[.int .i64 0, .bool false]) w := by kernel_rfl
theorem as_literal_broken (y : Value) (w : World) : (Instr.typeAssert (.iface 172 y) 20 159 true).run Tryz.prog w = .ok (.tuple #[.string ⟨#[]⟩, .bool false]) w := by kernel_rfl
theorem as_literal_words (y : Value) (w : World) : (Instr.typeAssert (.iface 172 y) 20 169 true).run Tryz.prog w = .ok (.tuple #[.string ⟨#[]⟩, .bool false]) w := by kernel_rfl
theorem as_literal_list (y : Value) (w : World) : (Instr.typeAssert (.iface 172 y) 20 160 true).run Tryz.prog w = .ok (.tuple #[.slice none 0 0, .bool false]) w := by kernel_rfl
theorem as_literal_thing (y : Value) (w : World) : (Instr.typeAssert (.iface 172 y) 20 162 true).run Tryz.prog w = .ok (.tuple #[.int .i64 0, .bool false]) w := by kernel_rfl
theorem as_literal_literal (y : Value) (w : World) : (Instr.typeAssert (.iface 172 y) 20 172 true).run Tryz.prog w = .ok (.tuple #[y, .bool true]) w := by kernel_rfl
theorem as_other_none (y : Value) (w : World) : (Instr.typeAssert (.iface 173 y) 20 168 true).run Tryz.prog w = .ok (.tuple #[.agg #[], .bool false]) w := by kernel_rfl
theorem as_other_boolean (y : Value) (w : World) : (Instr.typeAssert (.iface 173 y) 20 164 true).run Tryz.prog w = .ok (.tuple #[.bool false, .bool false]) w := by kernel_rfl
theorem as_other_whole (y : Value) (w : World) : (Instr.typeAssert (.iface 173 y) 20 158 true).run Tryz.prog w = .ok (.tuple #[.int .i64 0, .bool false]) w := by kernel_rfl
theorem as_other_broken (y : Value) (w : World) : (Instr.typeAssert (.iface 173 y) 20 159 true).run Tryz.prog w = .ok (.tuple #[.string ⟨#[]⟩, .bool false]) w := by kernel_rfl
theorem as_other_words (y : Value) (w : World) : (Instr.typeAssert (.iface 173 y) 20 169 true).run Tryz.prog w = .ok (.tuple #[.string ⟨#[]⟩, .bool false]) w := by kernel_rfl
theorem as_other_list (y : Value) (w : World) : (Instr.typeAssert (.iface 173 y) 20 160 true).run Tryz.prog w = .ok (.tuple #[.slice none 0 0, .bool false]) w := by kernel_rfl
theorem as_other_thing (y : Value) (w : World) : (Instr.typeAssert (.iface 173 y) 20 162 true).run Tryz.prog w = .ok (.tuple #[.int .i64 0, .bool false]) w := by kernel_rfl
theorem as_other_literal (y : Value) (w : World) : (Instr.typeAssert (.iface 173 y) 20 172 true).run Tryz.prog w = .ok (.tuple #[.agg #[.string ⟨#[]⟩, .string ⟨#[]⟩], .bool false]) w := by kernel_rfl
theorem as_other_other (y : Value) (w : World) : (Instr.typeAssert (.iface 173 y) 20 173 true).run Tryz.prog w = .ok (.tuple #[y, .bool true]) w := by kernel_rfl

/-- A value being checked: it, how deep it is, and what is held against it. -/
structure ChkM (w : World) (h : Nat) (k : Int) (b : Bool) (n : Int) (t x : ByteArray) (s : Value) (d : Nat) (b' : Bool) (n' : Int) (t' x' : ByteArray) (wr : World) : Prop where
 below : Below w.heap.size w wr
 val : wr.heap[h]? = some (.cells #[.int .i64 k, .bool b, .int .i64 n, .string t, .string x, s] 34 (0, 0))
 dp : wr.heap[h + 1]? = some (.cells #[.int .i64 (d : Int)] 3 (0, 0))
 bare : wr.heap[h + 1 + 1]? = some (.cells #[.int .i64 k, .bool b', .int .i64 n', .string t', .string x', .slice none 0 0] 34 (0, 0))
 size : h + 3 ≤ wr.heap.size
 low : w.heap.size ≤ h
section
variable {w : World} {h : Nat} {k : Int} {b : Bool} {n : Int} {t x : ByteArray} {s : Value} {d : Nat} {b' : Bool} {n' : Int} {t' x' : ByteArray} {wr : World}
theorem ChkM.on (c : ChkM w h k b n t x s d b' n' t' x' wr) {w2 : World} (hb : Below wr.heap.size wr w2) : ChkM w h k b n t x s d b' n' t' x' w2 :=
 ⟨c.below.trans (hb.mono c.below.size), (hb.block h (by have := c.size; omega)).trans c.val, (hb.block (h + 1) (by have := c.size; omega)).trans c.dp, (hb.block (h + 1 + 1) (by have := c.size; omega)).trans c.bare, Nat.le_trans c.size hb.size, c.low⟩
theorem ChkM.alloc (c : ChkM w h k b n t x s d b' n' t' x' wr) (ob : Obj) : ChkM w h k b n t x s d b' n' t' x' (wr.alloc ob) := c.on ((Below.refl _ _).alloc (Nat.le_refl _) _)
theorem ChkM.drew (c : ChkM w h k b n t x s d b' n' t' x' wr) : ChkM w h k b n t x s d b' n' t' x' wr.drew := c.on (below_drewN (Below.refl _ _) 1)
theorem ChkM.set (c : ChkM w h k b n t x s d b' n' t' x' wr) (j : Nat) (v : Value) {b2 : Bool} {n2 : Int} {t2 x2 : ByteArray}
    (e : (#[.int .i64 k, .bool b', .int .i64 n', .string t', .string x', .slice none 0 0] : Array Value).setIfInBounds j v = #[.int .i64 k, .bool b2, .int .i64 n2, .string t2, .string x2, .slice none 0 0]) : ChkM w h k b n t x s d b2 n2 t2 x2 (wr.setCell ⟨h + 1 + 1, j, none⟩ v) :=
 ⟨c.below.setCell (p := ⟨h + 1 + 1, j, none⟩) (by have := c.low; show _ ≤ h + 1 + 1; omega) v, (Below.heap_setCell _ _ _ _ (by show h ≠ h + 1 + 1; omega)).trans c.val, (Below.heap_setCell _ _ _ _ (by show h + 1 ≠ h + 1 + 1; omega)).trans c.dp, by
  rw [← e]; exact heap_setCell_same _ _ j _ _ v c.bare, by simpa using c.size, c.low⟩
end

theorem may_0 (b : Bool) (n : Int) (t x : ByteArray) (l : List Val) (d : Nat) : mayV (.mk 0 b n t x l) d = cmpB 0 b n t x l false 0 ⟨#[]⟩ ⟨#[]⟩ := by unfold mayV; rfl
theorem may_1 (b : Bool) (n : Int) (t x : ByteArray) (l : List Val) (d : Nat) : mayV (.mk 1 b n t x l) d = cmpB 1 b n t x l b 0 ⟨#[]⟩ ⟨#[]⟩ := by unfold mayV; rfl
theorem may_2 (b : Bool) (n : Int) (t x : ByteArray) (l : List Val) (d : Nat) : mayV (.mk 2 b n t x l) d = cmpB 2 b n t x l false n ⟨#[]⟩ ⟨#[]⟩ := by unfold mayV; rfl
theorem may_3 (b : Bool) (n : Int) (t x : ByteArray) (l : List Val) (d : Nat) : mayV (.mk 3 b n t x l) d = (decB t && cmpB 3 b n t x l false 0 t ⟨#[]⟩) := by unfold mayV; rfl
theorem may_4 (b : Bool) (n : Int) (t x : ByteArray) (l : List Val) (d : Nat) : mayV (.mk 4 b n t x l) d = (decide (t.size ≤ 1048576) && cmpB 4 b n t x l false 0 t ⟨#[]⟩) := by unfold mayV; rfl
theorem may_8 (b : Bool) (n : Int) (t x : ByteArray) (l : List Val) (d : Nat) : mayV (.mk 8 b n t x l) d = (iriB t && cmpB 8 b n t x l false 0 t ⟨#[]⟩) := by unfold mayV; rfl
theorem may_9 (b : Bool) (n : Int) (t x : ByteArray) (l : List Val) (d : Nat) : mayV (.mk 9 b n t x l) d = (nameB t && cmpB 9 b n t x l false 0 t ⟨#[]⟩) := by unfold mayV; rfl
theorem may_5 (b : Bool) (n : Int) (t x : ByteArray) (l : List Val) (d : Nat) : mayV (.mk 5 b n t x l) d = (decide (l.length ≤ 4096) && (decide (d < 60) && (mayL l (d + 1) && cmpB 5 b n t x l false 0 ⟨#[]⟩ ⟨#[]⟩))) := by unfold mayV; rfl
theorem may_6 (b : Bool) (n : Int) (t x : ByteArray) (l : List Val) (d : Nat) : mayV (.mk 6 b n t x l) d = (decide (0 ≤ n) && cmpB 6 b n t x l false n ⟨#[]⟩ ⟨#[]⟩) := by unfold mayV; rfl
theorem may_7 (b : Bool) (n : Int) (t x : ByteArray) (l : List Val) (d : Nat) : mayV (.mk 7 b n t x l) d = (decide (0 ≤ n) && cmpB 7 b n t x l false n ⟨#[]⟩ ⟨#[]⟩) := by unfold mayV; rfl
theorem may_10 (b : Bool) (n : Int) (t x : ByteArray) (l : List Val) (d : Nat) : mayV (.mk 10 b n t x l) d = (decide (t.size ≤ 1048576) && (iriB x && cmpB 10 b n t x l false 0 t x)) := by unfold mayV; rfl
set_option maxRecDepth 100000 in
set_option maxHeartbeats 4000000 in
theorem chk_any (N : Nat) : ∀ (v : Val) (_ : sizeV v < N) (_ : sizeV v ≤ 10000000000000000) (d : Nat) (_ : d ≤ 60) (F : Nat → Prop) (u : Value) (w : World) (_ : ∀ g, F g → g < w.heap.size) (_ : VRd w F v u) (_ : GlobB w),
    Calls Tryz.prog 89 #[u, .int .i64 (d : Int)] w (ToldB (mayV v d) w) := by
 induction N with
 | zero => exact fun _ h => absurd h (Nat.not_lt_zero _)
 | succ N ih =>
  intro v hN hs d hd F u w hF hv hg
  obtain ⟨A, cap, rfl, hcap, hl⟩ := hv.inv
  have IH := Lib.hid ih
  have HL := Lib.hid hl
  have HF := Lib.hid hF
  have HG := Lib.hid hg
  clear ih hl hF hg hv
  obtain ⟨s, HS⟩ := name_itV (Value.slice A v.list.length cap)
  have HP := Lib.hid (fun W => part_any v s W)
  rw [HS.out]
  obtain ⟨mv, HMV⟩ := name_itV (mayV v d)
  rw [HMV.out]
  cases v with
  | mk k b n t x l =>
  obtain ⟨pv, HPV⟩ := name_itV (partV (.mk k b n t x l) s)
  unfold PartIs cellsV at HP
  unfold cellsV
  rw [HPV.out] at HP
  simp only [Val.kind, Val.truth, Val.num, Val.text, Val.extra, Val.list] at HP HL HS hcap ⊢
  have hts : t.size ≤ 9223372036854775807 ∧ x.size ≤ 9223372036854775807 ∧ l.length ≤ 10000000000000000 ∧ sizeL l < N ∧ sizeL l ≤ 10000000000000000 := by
   simp only [sizeV] at hs hN
   have := len_le_size l
   omega
  obtain ⟨hts, hxs, hll, hlN, hls⟩ := hts
  clear hN hs
  go_enter Tryz.func89, Tryz.ntmps89
  go_wp2_with fail
  obtain ⟨h, Hh⟩ := name_itV w.heap.size
  have hcm := Lib.hid (show ChkM w h k b n t x s d false 0 ⟨#[]⟩ ⟨#[]⟩ (((w.alloc (.cells #[.int .i64 k, .bool b, .int .i64 n, .string t, .string x, s] 34)).alloc (.cells #[.int .i64 (d : Int)] 3)).alloc (.cells #[.int .i64 k, .bool false, .int .i64 0, .string ⟨#[]⟩, .string ⟨#[]⟩, .slice none 0 0] 34)) from by
   rw [← Hh.out]
   refine ⟨below_new3 w _ _ _, ?_, ?_, ?_, by simp, Nat.le_refl _⟩
   ·rw [Below.heap_alloc _ _ _ (by simp; omega), Below.heap_alloc _ _ _ (by simp)]; exact heap_alloc_new w _
   ·rw [Below.heap_alloc _ _ _ (by simp)]
    have := heap_alloc_new (w.alloc (.cells #[.int .i64 k, .bool b, .int .i64 n, .string t, .string x, s] 34)) (.cells #[.int .i64 (d : Int)] 3)
    rwa [show (w.alloc (.cells #[.int .i64 k, .bool b, .int .i64 n, .string t, .string x, s] 34)).heap.size = w.heap.size + 1 by simp] at this
   ·have := heap_alloc_new ((w.alloc (.cells #[.int .i64 k, .bool b, .int .i64 n, .string t, .string x, s] 34)).alloc (.cells #[.int .i64 (d : Int)] 3)) (.cells #[.int .i64 k, .bool false, .int .i64 0, .string ⟨#[]⟩, .string ⟨#[]⟩, .slice none 0 0] 34)
    rwa [show ((w.alloc (.cells #[.int .i64 k, .bool b, .int .i64 n, .string t, .string x, s] 34)).alloc (.cells #[.int .i64 (d : Int)] 3)).heap.size = w.heap.size + 1 + 1 by simp] at this)
  rw [Hh.out]
  obtain ⟨w0, Hw0⟩ := name_itV (((w.alloc (.cells #[.int .i64 k, .bool b, .int .i64 n, .string t, .string x, s] 34)).alloc (.cells #[.int .i64 (d : Int)] 3)).alloc (.cells #[.int .i64 k, .bool false, .int .i64 0, .string ⟨#[]⟩, .string ⟨#[]⟩, .slice none 0 0] 34))
  rw [Hw0.out] at hcm ⊢
  refine (HP.out _).mono ?_
  rintro e w1 ⟨rfl, hb1⟩
  have HC := Lib.hid (hcm.out.on hb1)
  clear hb1 hcm HP
  have cv0 : w1.cell? ⟨h, 0, none⟩ = some (.int .i64 k) := Lib.cell_of_heap HC.out.val 0
  have cd : w1.cell? ⟨h + 1, 0, none⟩ = some (.int .i64 (d : Int)) := Lib.cell_of_heap HC.out.dp 0
  have cb1 : w1.cell? ⟨h + 1 + 1, 1, none⟩ = some (.bool false) := Lib.cell_of_heap HC.out.bare 1
  have cb2 : w1.cell? ⟨h + 1 + 1, 2, none⟩ = some (.int .i64 0) := Lib.cell_of_heap HC.out.bare 2
  have cb3 : w1.cell? ⟨h + 1 + 1, 3, none⟩ = some (.string ⟨#[]⟩) := Lib.cell_of_heap HC.out.bare 3
  have cb4 : w1.cell? ⟨h + 1 + 1, 4, none⟩ = some (.string ⟨#[]⟩) := Lib.cell_of_heap HC.out.bare 4
  have fb1 : w1.frozen? ⟨h + 1 + 1, 1, none⟩ = false := Lib.frozen_of_heap HC.out.bare 1
  have fb2 : w1.frozen? ⟨h + 1 + 1, 2, none⟩ = false := Lib.frozen_of_heap HC.out.bare 2
  have fb3 : w1.frozen? ⟨h + 1 + 1, 3, none⟩ = false := Lib.frozen_of_heap HC.out.bare 3
  have fb4 : w1.frozen? ⟨h + 1 + 1, 4, none⟩ = false := Lib.frozen_of_heap HC.out.bare 4
  go_upto_block 0 with fail
  go_cut [] (fun wx => Hid (∃ b' n' t' x', ChkM w h k b n t x s d b' n' t' x' wx ∧ mv = cmpB k b n t x l b' n' t' x'))
  case first =>

   by_cases h0 : k = 0
   ·subst h0
    have hpv : pv = .iface 168 (.agg #[]) := by rw [← HPV.out]; rfl
    subst hpv
    have hmv := Lib.hid (show mv = cmpB 0 b n t x l false 0 ⟨#[]⟩ ⟨#[]⟩ from by rw [← HMV.out]; exact may_0 b n t x l d)
    have a_none := as_none_none (.agg #[])
    clear HPV HMV
    go_wp2_with fail
    go_meet
    exact Lib.hid ⟨_, _, _, _, HC.out.alloc _, hmv.out⟩
   ·have e0 : ((k : Int) == 0) = false := beq_eq_false_iff_ne.2 h0
    by_cases h1 : k = 1
    ·subst h1
     have hpv : pv = .iface 164 (.bool b) := by rw [← HPV.out]; rfl
     subst hpv
     have hmv := Lib.hid (show mv = cmpB 1 b n t x l b 0 ⟨#[]⟩ ⟨#[]⟩ from by rw [← HMV.out]; exact may_1 b n t x l d)
     have a_none := as_boolean_none (.bool b)
     have a_boolean := as_boolean_boolean (.bool b)
     clear HPV HMV
     go_wp2_with fail
     go_meet
     exact Lib.hid ⟨_, _, _, _, HC.out.set 1 _ rfl, hmv.out⟩
    ·have e1 : ((k : Int) == 1) = false := beq_eq_false_iff_ne.2 h1
     by_cases h2 : k = 2
     ·subst h2
      have hpv : pv = .iface 158 (.int .i64 n) := by rw [← HPV.out]; rfl
      subst hpv
      have hmv := Lib.hid (show mv = cmpB 2 b n t x l false n ⟨#[]⟩ ⟨#[]⟩ from by rw [← HMV.out]; exact may_2 b n t x l d)
      have a_none := as_whole_none (.int .i64 n)
      have a_boolean := as_whole_boolean (.int .i64 n)
      have a_whole := as_whole_whole (.int .i64 n)
      clear HPV HMV
      go_wp2_with fail
      go_meet
      exact Lib.hid ⟨_, _, _, _, HC.out.set 2 _ rfl, hmv.out⟩
     ·have e2 : ((k : Int) == 2) = false := beq_eq_false_iff_ne.2 h2
      by_cases h3 : k = 3
      ·subst h3
       have hpv : pv = .iface 159 (.string t) := by rw [← HPV.out]; rfl
       subst hpv
       have hmv := Lib.hid (show mv = (decB t && cmpB 3 b n t x l false 0 t ⟨#[]⟩) from by rw [← HMV.out]; exact may_3 b n t x l d)
       have a_none := as_broken_none (.string t)
       have a_boolean := as_broken_boolean (.string t)
       have a_whole := as_broken_whole (.string t)
       have a_broken := as_broken_broken (.string t)
       clear HPV HMV
       have hdec := Lib.hid (dec_any t hts w1 (glob_under HG.out HC.out.below))
       obtain ⟨r, Hr⟩ := name_itV (decB t)
       rw [Hr.out] at hdec hmv
       cases r with
       | false =>
        have hmf := Lib.hid (show false = mv from by rw [hmv.out]; rfl)
        go_wp2_with fail; refine hdec.out.mono ?_; rintro e w2 ⟨rfl, hb2⟩
        have HC2 := Lib.hid (HC.out.on hb2)
        clear hb2
        go_wp2_with fail
        go_ret
        exact ⟨ret_b hmf.out, HC2.out.below⟩
       | true =>
        go_wp2_with fail; refine hdec.out.mono ?_; rintro e w2 ⟨rfl, hb2⟩
        have HC2 := Lib.hid (HC.out.on hb2)
        clear hb2 cb3 fb3
        have cb3 : w2.cell? ⟨h + 1 + 1, 3, none⟩ = some (.string ⟨#[]⟩) := Lib.cell_of_heap HC2.out.bare 3
        have fb3 : w2.frozen? ⟨h + 1 + 1, 3, none⟩ = false := Lib.frozen_of_heap HC2.out.bare 3
        go_wp2_with fail
        go_meet
        exact Lib.hid ⟨_, _, _, _, HC2.out.set 3 _ rfl, hmv.out⟩
      ·have e3 : ((k : Int) == 3) = false := beq_eq_false_iff_ne.2 h3
       by_cases h4 : k = 4
       ·subst h4
        have hpv : pv = .iface 169 (.string t) := by rw [← HPV.out]; rfl
        subst hpv
        have hmv := Lib.hid (show mv = (decide (t.size ≤ 1048576) && cmpB 4 b n t x l false 0 t ⟨#[]⟩) from by rw [← HMV.out]; exact may_4 b n t x l d)
        have a_none := as_words_none (.string t)
        have a_boolean := as_words_boolean (.string t)
        have a_whole := as_words_whole (.string t)
        have a_broken := as_words_broken (.string t)
        have a_words := as_words_words (.string t)
        clear HPV HMV
        by_cases hsz : t.size ≤ 1048576
        ·have z1 : (t.size : Int) ≤ 1048576 := by omega
         have hmt := Lib.hid (show mv = cmpB 4 b n t x l false 0 t ⟨#[]⟩ from by rw [hmv.out, decide_eq_true hsz]; rfl)
         go_wp2_with fail
         go_meet
         exact Lib.hid ⟨_, _, _, _, HC.out.set 3 _ rfl, hmt.out⟩
        ·have z1 : ¬ (t.size : Int) ≤ 1048576 := by omega
         have hmf := Lib.hid (show false = mv from by rw [hmv.out]; rw [decide_eq_false hsz]; rfl)
         go_wp2_with fail
         go_ret
         exact ⟨ret_b hmf.out, HC.out.below⟩
       ·have e4 : ((k : Int) == 4) = false := beq_eq_false_iff_ne.2 h4
        by_cases h8 : k = 8
        ·subst h8
         have hpv : pv = .iface 169 (.string t) := by rw [← HPV.out]; rfl
         subst hpv
         have hmv := Lib.hid (show mv = (iriB t && cmpB 8 b n t x l false 0 t ⟨#[]⟩) from by rw [← HMV.out]; exact may_8 b n t x l d)
         have a_none := as_words_none (.string t)
         have a_boolean := as_words_boolean (.string t)
         have a_whole := as_words_whole (.string t)
         have a_broken := as_words_broken (.string t)
         have a_words := as_words_words (.string t)
         clear HPV HMV
         have hx := Lib.hid (iri_any t hts w1)
         obtain ⟨r, Hr⟩ := name_itV (iriB t)
         rw [Hr.out] at hx hmv
         cases r with
         | false =>
          have hmf := Lib.hid (show false = mv from by rw [hmv.out]; rfl)
          go_wp2_with fail; refine hx.out.mono ?_; rintro e w2 ⟨rfl, rfl⟩
          go_wp2_with fail
          go_ret
          exact ⟨ret_b hmf.out, HC.out.below⟩
         | true =>
          go_wp2_with fail; refine hx.out.mono ?_; rintro e w2 ⟨rfl, rfl⟩
          go_wp2_with fail
          go_meet
          exact Lib.hid ⟨_, _, _, _, HC.out.set 3 _ rfl, hmv.out⟩
        ·have e8 : ((k : Int) == 8) = false := beq_eq_false_iff_ne.2 h8
         by_cases h9 : k = 9
         ·subst h9
          have hpv : pv = .iface 169 (.string t) := by rw [← HPV.out]; rfl
          subst hpv
          have hmv := Lib.hid (show mv = (nameB t && cmpB 9 b n t x l false 0 t ⟨#[]⟩) from by rw [← HMV.out]; exact may_9 b n t x l d)
          have a_none := as_words_none (.string t)
          have a_boolean := as_words_boolean (.string t)
          have a_whole := as_words_whole (.string t)
          have a_broken := as_words_broken (.string t)
          have a_words := as_words_words (.string t)
          clear HPV HMV
          have hx := Lib.hid (name_any t hts w1)
          obtain ⟨r, Hr⟩ := name_itV (nameB t)
          rw [Hr.out] at hx hmv
          cases r with
          | false =>
           have hmf := Lib.hid (show false = mv from by rw [hmv.out]; rfl)
           go_wp2_with fail; refine hx.out.mono ?_; rintro e w2 ⟨rfl, rfl⟩
           go_wp2_with fail
           go_ret
           exact ⟨ret_b hmf.out, HC.out.below⟩
          | true =>
           go_wp2_with fail; refine hx.out.mono ?_; rintro e w2 ⟨rfl, rfl⟩
           go_wp2_with fail
           go_meet
           exact Lib.hid ⟨_, _, _, _, HC.out.set 3 _ rfl, hmv.out⟩
         ·have e9 : ((k : Int) == 9) = false := beq_eq_false_iff_ne.2 h9
          by_cases h5 : k = 5
          ·subst h5
           have hpv : pv = .iface 160 (s) := by rw [← HPV.out]; rfl
           subst hpv
           have hmv := Lib.hid (show mv = (decide (l.length ≤ 4096) && (decide (d < 60) && (mayL l (d + 1) && cmpB 5 b n t x l false 0 ⟨#[]⟩ ⟨#[]⟩))) from by rw [← HMV.out]; exact may_5 b n t x l d)
           have a_none := as_list_none (s)
           have a_boolean := as_list_boolean (s)
           have a_whole := as_list_whole (s)
           have a_broken := as_list_broken (s)
           have a_words := as_list_words (s)
           have a_list := as_list_list (s)
           clear HPV HMV
           have hs5 := HS.out
           subst hs5
           by_cases hl1 : l.length ≤ 4096
           ·have z1 : ¬ (4096 : Int) < (l.length : Int) := by omega
            by_cases hd1 : d < 60
            ·have z2 : ¬ (60 : Int) ≤ (d : Int) := by omega
             have hct := Lib.hid (cont_any l (d + 1) (.func (.func 134) #[] #[.pointer (some ⟨h + 1, 0, none⟩)]) A l.length cap w1 (idx_any l d hd1 ⟨h + 1, 0, none⟩ F A l.length cap w1 (fun g hg => Nat.lt_of_lt_of_le (HF.out g hg) HC.out.below.size) (HL.out.under HC.out.below HF.out) hl1 cd (by have := HC.out.size; show h + 1 < _; omega)
              (fun y hy u W hW hv => IH.out y (by have := sizeV_mem hy; omega) (by have := sizeV_mem hy; omega) (d + 1) (by omega) F u W (fun g hg => Nat.lt_of_lt_of_le (HF.out g hg) (Nat.le_trans HC.out.below.size hW.size)) hv (glob_under HG.out (HC.out.below.trans (hW.mono HC.out.below.size))))))
             obtain ⟨r, Hr⟩ := name_itV (mayL l (d + 1))
             rw [Hr.out] at hct hmv
             cases r with
             | false =>
              have hmf := Lib.hid (show false = mv from by rw [hmv.out]; simp)
              go_wp2_with fail; refine hct.out.mono ?_; rintro e w2 ⟨rfl, hb2⟩
              have HC2 := Lib.hid (HC.out.on hb2)
              clear hb2
              go_wp2_with fail
              go_ret
              exact ⟨ret_b hmf.out, HC2.out.below⟩
             | true =>
              have hmt := Lib.hid (show mv = cmpB 5 b n t x l false 0 ⟨#[]⟩ ⟨#[]⟩ from by rw [hmv.out, decide_eq_true hl1, decide_eq_true hd1]; rfl)
              go_wp2_with fail; refine hct.out.mono ?_; rintro e w2 ⟨rfl, hb2⟩
              have HC2 := Lib.hid (HC.out.on hb2)
              clear hb2
              go_wp2_with fail
              go_meet
              exact Lib.hid ⟨_, _, _, _, HC2.out, hmt.out⟩
            ·have z2 : (60 : Int) ≤ (d : Int) := by omega
             have hmf := Lib.hid (show false = mv from by rw [hmv.out]; rw [decide_eq_false hd1]; simp)
             go_wp2_with fail
             go_ret
             exact ⟨ret_b hmf.out, HC.out.below⟩
           ·have z1 : (4096 : Int) < (l.length : Int) := by omega
            have hmf := Lib.hid (show false = mv from by rw [hmv.out]; rw [decide_eq_false hl1]; rfl)
            go_wp2_with fail
            go_ret
            exact ⟨ret_b hmf.out, HC.out.below⟩
          ·have e5 : ((k : Int) == 5) = false := beq_eq_false_iff_ne.2 h5
           by_cases h6 : k = 6
           ·subst h6
            have hpv : pv = .iface 162 (.int .i64 n) := by rw [← HPV.out]; rfl
            subst hpv
            have hmv := Lib.hid (show mv = (decide (0 ≤ n) && cmpB 6 b n t x l false n ⟨#[]⟩ ⟨#[]⟩) from by rw [← HMV.out]; exact may_6 b n t x l d)
            have a_none := as_thing_none (.int .i64 n)
            have a_boolean := as_thing_boolean (.int .i64 n)
            have a_whole := as_thing_whole (.int .i64 n)
            have a_broken := as_thing_broken (.int .i64 n)
            have a_words := as_thing_words (.int .i64 n)
            have a_list := as_thing_list (.int .i64 n)
            have a_thing := as_thing_thing (.int .i64 n)
            clear HPV HMV
            by_cases hn0 : 0 ≤ n
            ·have z1 : ¬ n < 0 := by omega
             have hmt := Lib.hid (show mv = cmpB 6 b n t x l false n ⟨#[]⟩ ⟨#[]⟩ from by rw [hmv.out, decide_eq_true hn0]; rfl)
             go_wp2_with fail
             go_meet
             exact Lib.hid ⟨_, _, _, _, HC.out.set 2 _ rfl, hmt.out⟩
            ·have z1 : n < 0 := by omega
             have hmf := Lib.hid (show false = mv from by rw [hmv.out]; rw [decide_eq_false hn0]; rfl)
             go_wp2_with fail
             go_ret
             exact ⟨ret_b hmf.out, HC.out.below⟩
           ·have e6 : ((k : Int) == 6) = false := beq_eq_false_iff_ne.2 h6
            by_cases h7 : k = 7
            ·subst h7
             have hpv : pv = .iface 162 (.int .i64 n) := by rw [← HPV.out]; rfl
             subst hpv
             have hmv := Lib.hid (show mv = (decide (0 ≤ n) && cmpB 7 b n t x l false n ⟨#[]⟩ ⟨#[]⟩) from by rw [← HMV.out]; exact may_7 b n t x l d)
             have a_none := as_thing_none (.int .i64 n)
             have a_boolean := as_thing_boolean (.int .i64 n)
             have a_whole := as_thing_whole (.int .i64 n)
             have a_broken := as_thing_broken (.int .i64 n)
             have a_words := as_thing_words (.int .i64 n)
             have a_list := as_thing_list (.int .i64 n)
             have a_thing := as_thing_thing (.int .i64 n)
             clear HPV HMV
             by_cases hn0 : 0 ≤ n
             ·have z1 : ¬ n < 0 := by omega
              have hmt := Lib.hid (show mv = cmpB 7 b n t x l false n ⟨#[]⟩ ⟨#[]⟩ from by rw [hmv.out, decide_eq_true hn0]; rfl)
              go_wp2_with fail
              go_meet
              exact Lib.hid ⟨_, _, _, _, HC.out.set 2 _ rfl, hmt.out⟩
             ·have z1 : n < 0 := by omega
              have hmf := Lib.hid (show false = mv from by rw [hmv.out]; rw [decide_eq_false hn0]; rfl)
              go_wp2_with fail
              go_ret
              exact ⟨ret_b hmf.out, HC.out.below⟩
            ·have e7 : ((k : Int) == 7) = false := beq_eq_false_iff_ne.2 h7
             by_cases h10 : k = 10
             ·subst h10
              have hpv : pv = .iface 172 (.agg #[.string t, .string x]) := by rw [← HPV.out]; rfl
              subst hpv
              have hmv := Lib.hid (show mv = (decide (t.size ≤ 1048576) && (iriB x && cmpB 10 b n t x l false 0 t x)) from by rw [← HMV.out]; exact may_10 b n t x l d)
              have a_none := as_literal_none (.agg #[.string t, .string x])
              have a_boolean := as_literal_boolean (.agg #[.string t, .string x])
              have a_whole := as_literal_whole (.agg #[.string t, .string x])
              have a_broken := as_literal_broken (.agg #[.string t, .string x])
              have a_words := as_literal_words (.agg #[.string t, .string x])
              have a_list := as_literal_list (.agg #[.string t, .string x])
              have a_thing := as_literal_thing (.agg #[.string t, .string x])
              have a_literal := as_literal_literal (.agg #[.string t, .string x])
              clear HPV HMV
              obtain ⟨w2, Hw2⟩ := name_itV (w1.alloc (.cells #[.string t, .string x] 172))
              obtain ⟨g, Hg⟩ := name_itV w1.heap.size
              have HC2 := Lib.hid (HC.out.alloc (.cells #[.string t, .string x] 172))
              rw [Hw2.out] at HC2
              have hblk := Lib.hid (heap_alloc_new w1 (.cells #[.string t, .string x] 172))
              rw [Hw2.out, Hg.out] at hblk
              have hgh := Lib.hid (show h + 1 + 1 < g from by rw [← Hg.out]; have := HC.out.size; omega)
              have hx := Lib.hid (iri_any x hxs w2)
              obtain ⟨r, Hr⟩ := name_itV (iriB x)
              rw [Hr.out] at hx hmv
              have l0 : w2.cell? ⟨g, 0, none⟩ = some (.string t) := Lib.cell_of_heap hblk.out 0
              have l1 : w2.cell? ⟨g, 1, none⟩ = some (.string x) := Lib.cell_of_heap hblk.out 1
              have db3 : w2.cell? ⟨h + 1 + 1, 3, none⟩ = some (.string ⟨#[]⟩) := Lib.cell_of_heap HC2.out.bare 3
              have df3 : w2.frozen? ⟨h + 1 + 1, 3, none⟩ = false := Lib.frozen_of_heap HC2.out.bare 3
              have db4 : w2.cell? ⟨h + 1 + 1, 4, none⟩ = some (.string ⟨#[]⟩) := Lib.cell_of_heap HC2.out.bare 4
              have df4 : w2.frozen? ⟨h + 1 + 1, 4, none⟩ = false := Lib.frozen_of_heap HC2.out.bare 4
              have dv0 : w2.cell? ⟨h, 0, none⟩ = some (.int .i64 10) := Lib.cell_of_heap HC2.out.val 0
              clear cb1 cb2 cb3 cb4 fb1 fb2 fb3 fb4 cv0 cd
              by_cases hsz : t.size ≤ 1048576
              ·have z1 : ¬ (1048576 : Int) < (t.size : Int) := by omega
               go_upto_region 40 with fail
               rw [Hw2.out, Hg.out]
               cases r with
               | false =>
                have hmf := Lib.hid (show false = mv from by rw [hmv.out]; rw [decide_eq_true hsz]; rfl)
                go_wp2_with fail; refine hx.out.mono ?_; rintro e w3 ⟨rfl, rfl⟩
                go_wp2_with fail
                go_ret
                exact ⟨ret_b hmf.out, HC2.out.below⟩
               | true =>
                have hmt := Lib.hid (show mv = cmpB 10 b n t x l false 0 t x from by rw [hmv.out, decide_eq_true hsz]; rfl)
                go_wp2_with fail; refine hx.out.mono ?_; rintro e w3 ⟨rfl, rfl⟩
                go_wp2_with fail
                go_region
                go_wp2_with fail
                go_meet
                exact Lib.hid ⟨_, _, _, _, ((HC2.out.set 3 _ rfl).set 4 _ rfl).drew, hmt.out⟩
              ·have z1 : (1048576 : Int) < (t.size : Int) := by omega
               have hmf := Lib.hid (show false = mv from by rw [hmv.out]; rw [decide_eq_false hsz]; rfl)
               go_upto_region 40 with fail
               rw [Hw2.out, Hg.out]
               go_wp2_with fail
               go_ret
               exact ⟨ret_b hmf.out, HC2.out.below⟩
             ·have e10 : ((k : Int) == 10) = false := beq_eq_false_iff_ne.2 h10
              have hpv : pv = .iface 173 (.int .i64 k) := by rw [← HPV.out]; unfold partV; simp only [Val.kind, h0, h1, h2, h3, h4, h8, h9, h5, h6, h7, h10, if_false]
              subst hpv
              have hmf := Lib.hid (show false = mv from by rw [← HMV.out]; unfold mayV; simp only [h0, h1, h2, h3, h4, h8, h9, h5, h6, h7, h10, if_false])
              have a_none := as_other_none (.int .i64 k)
              have a_boolean := as_other_boolean (.int .i64 k)
              have a_whole := as_other_whole (.int .i64 k)
              have a_broken := as_other_broken (.int .i64 k)
              have a_words := as_other_words (.int .i64 k)
              have a_list := as_other_list (.int .i64 k)
              have a_thing := as_other_thing (.int .i64 k)
              have a_literal := as_other_literal (.int .i64 k)
              have a_other := as_other_other (.int .i64 k)
              clear HPV HMV h0 h1 h2 h3 h4 h8 h9 h5 h6 h7 h10
              go_wp2_with fail
              go_ret
              exact ⟨ret_b hmf.out, HC.out.below⟩
  case rest =>
   obtain ⟨b', n', t', x', hc, hm⟩ := hcut.out
   have hs5 := HS.out
   subst hs5
   have HC2 := Lib.hid hc
   have HM := Lib.hid hm
   clear hc hm hcut HC cv0 cd cb1 cb2 cb3 cb4 fb1 fb2 fb3 fb4
   have v0 : wc.cell? ⟨h, 0, none⟩ = some (.int .i64 k) := Lib.cell_of_heap HC2.out.val 0
   have v1 : wc.cell? ⟨h, 1, none⟩ = some (.bool b) := Lib.cell_of_heap HC2.out.val 1
   have v2 : wc.cell? ⟨h, 2, none⟩ = some (.int .i64 n) := Lib.cell_of_heap HC2.out.val 2
   have v3 : wc.cell? ⟨h, 3, none⟩ = some (.string t) := Lib.cell_of_heap HC2.out.val 3
   have v4 : wc.cell? ⟨h, 4, none⟩ = some (.string x) := Lib.cell_of_heap HC2.out.val 4
   have v5 : wc.cell? ⟨h, 5, none⟩ = some (.slice A l.length cap) := Lib.cell_of_heap HC2.out.val 5
   have u1 : wc.cell? ⟨h + 1 + 1, 1, none⟩ = some (.bool b') := Lib.cell_of_heap HC2.out.bare 1
   have u2 : wc.cell? ⟨h + 1 + 1, 2, none⟩ = some (.int .i64 n') := Lib.cell_of_heap HC2.out.bare 2
   have u3 : wc.cell? ⟨h + 1 + 1, 3, none⟩ = some (.string t') := Lib.cell_of_heap HC2.out.bare 3
   have u4 : wc.cell? ⟨h + 1 + 1, 4, none⟩ = some (.string x') := Lib.cell_of_heap HC2.out.bare 4
   obtain ⟨ln, HLN⟩ := name_itV l.length
   have hfin := Lib.hid (show mv = ((b == b') && (decide (n = n') && (decide (t = t') && (decide (x = x') && (decide (ln = 0) || decide (k = 5)))))) from by rw [HM.out, ← HLN.out]; rfl)
   rw [HLN.out] at v5
   clear hcap HM
   by_cases q1 : b = b'
   ·have e1 : (b == b') = true := by rw [q1]; simp
    by_cases q2 : n = n'
    ·have e2 : (n == n') = true := by rw [q2]; simp
     by_cases q3 : t = t'
     ·have e3 : (t.toList == t'.toList) = true := by rw [q3]; simp
      by_cases q4 : x = x'
      ·have e4 : (x.toList == x'.toList) = true := by rw [q4]; simp
       by_cases q5 : ln = 0
       ·have e5 : ((ln : Int) == 0) = true := by rw [q5]; rfl
        have hf := Lib.hid (show true = mv from by rw [hfin.out, e1, decide_eq_true q2, decide_eq_true q3, decide_eq_true q4, decide_eq_true q5]; rfl)
        clear q1 q2 q3 q4 q5
        go_wp2_with fail
        go_ret
        exact ⟨ret_b hf.out, HC2.out.below⟩
       ·have e5 : ((ln : Int) == 0) = false := beq_eq_false_iff_ne.2 (by omega)
        have hf := Lib.hid (show ((k : Int) == 5) = mv from by
         rw [hfin.out, e1, decide_eq_true q2, decide_eq_true q3, decide_eq_true q4, decide_eq_false q5]
         by_cases q6 : k = 5
         ·rw [q6]; rfl
         ·rw [decide_eq_false q6, beq_eq_false_iff_ne.2 q6]; rfl)
        clear q1 q2 q3 q4 q5
        go_wp2_with fail
        go_ret
        exact ⟨ret_b hf.out, HC2.out.below⟩
      ·have e4 : (x.toList == x'.toList) = false := strV_ne q4
       have hf := Lib.hid (show false = mv from by rw [hfin.out, decide_eq_false q4]; simp)
       clear q1 q2 q3 q4
       go_wp2_with fail
       go_ret
       exact ⟨ret_b hf.out, HC2.out.below⟩
     ·have e3 : (t.toList == t'.toList) = false := strV_ne q3
      have hf := Lib.hid (show false = mv from by rw [hfin.out, decide_eq_false q3]; simp)
      clear q1 q2 q3
      go_wp2_with fail
      go_ret
      exact ⟨ret_b hf.out, HC2.out.below⟩
    ·have e2 : (n == n') = false := beq_eq_false_iff_ne.2 q2
     have hf := Lib.hid (show false = mv from by rw [hfin.out, decide_eq_false q2]; simp)
     clear q1 q2
     go_wp2_with fail
     go_ret
     exact ⟨ret_b hf.out, HC2.out.below⟩
   ·have e1 : (b == b') = false := beq_eq_false_iff_ne.2 q1
    have hf := Lib.hid (show false = mv from by rw [hfin.out, e1]; rfl)
    clear q1
    go_wp2_with fail
    go_ret
    exact ⟨ret_b hf.out, HC2.out.below⟩
end Go.Proofs.YtijciakkfpjjbaaGreatDoor
namespace Go.Proofs.YtijciakkfpjjbaaGreatDoor
open Go Go.RowKit

set_option maxRecDepth 100000 in
set_option maxHeartbeats 1000000 in
theorem check_any (v : Val) (hs : sizeV v ≤ 10000000000000000) (F : Nat → Prop) (u : Value) (w : World) (hF : ∀ g, F g → g < w.heap.size) (hv : VRd w F v u) (hg : GlobB w) :
    Calls Tryz.prog 67 #[u] w (ToldB (mayV v 0) w) := by
 obtain ⟨A, cap, hu, hcap, hl⟩ := hv.inv
 have hck := Lib.hid (fun o : Obj => chk_any (sizeV v + 1) v (by omega) hs 0 (by omega) F u (w.alloc o) (fun g hg => by have := hF g hg; simp; omega) (hv.under ((Below.refl _ _).alloc (Nat.le_refl _) _) hF) (glob_under hg ((Below.refl _ _).alloc (Nat.le_refl _) _)))
 subst hu
 obtain ⟨s, HS⟩ := name_itV (Value.slice A v.list.length cap)
 obtain ⟨mv, HMV⟩ := name_itV (mayV v 0)
 rw [HMV.out] at hck
 rw [HMV.out]
 rw [HS.out] at hck ⊢
 clear hl hcap hg
 cases v with
 | mk k b n t x l =>
 unfold cellsV at hck ⊢
 simp only [Val.kind, Val.truth, Val.num, Val.text, Val.extra] at hck ⊢
 clear hv hF
 go_enter Tryz.func67, Tryz.ntmps67
 go_wp2_with fail
 refine (hck.out _).mono ?_
 rintro e w1 ⟨rfl, hb⟩
 have HB := Lib.hid (((Below.refl w.heap.size w).alloc (Nat.le_refl _) (.cells #[.int .i64 k, .bool b, .int .i64 n, .string t, .string x, s] 34)).trans (hb.mono (by simp)))
 clear hb
 go_wp2_with fail
 go_ret
 exact ⟨rfl, HB.out⟩
end Go.Proofs.YtijciakkfpjjbaaGreatDoor
namespace Go.Proofs.YtijciakkfpjjbaaGreatDoor
open Go Go.RowKit

end Go.Proofs.YtijciakkfpjjbaaGreatDoor
namespace Go.Proofs.YtijciakkfpjjbaaGreatDoor
open Go Go.RowKit

theorem intAt {w : World} {F : Nat → Prop} {l : List Int} {A : Option Addr} {n : Nat} (h : SRd 1 IxR w F l A n) {i : Nat} {x : Int} (hx : l[i]? = some x) :
    ∃ ad, A = some ad ∧ F ad.block ∧ w.cell? (ad.add i) = some (.int .i64 x) := by
 obtain ⟨ad, c, e, hF, _, hc, hcx⟩ := h.at_ hx
 have c0 := hc 0 (by omega)
 rw [hcx] at c0
 exact ⟨ad, e, hF, by simpa using c0⟩
def inI (l : List Int) (x : Int) : Bool := decide (x ∈ l)
def ToldS (b : Bool) (w : World) (e : Ending) (w' : World) : Prop := e = .returned (.bool b) ∧ w' = w
def IdxB (b : Bool) (w : World) (e : Ending) (w' : World) : Prop := ∃ r : Int, e = .returned (.int .i64 r) ∧ decide (0 ≤ r) = b ∧ w' = w
set_option maxRecDepth 100000 in
set_option maxHeartbeats 1000000 in
theorem idxI_any (l : List Int) (x : Int) (F : Nat → Prop) (A : Option Addr) (n c : Nat) (w : World) (h : SRd 1 IxR w F l A n) (hn : n ≤ 1000000000) :
    Calls Tryz.prog 90 #[.slice A n c, .int .i64 x] w (IdxB (inI l x) w) := by
 have H1 := Lib.hid h
 have L1 := Lib.hid h.1
 clear h
 obtain ⟨r, HR⟩ := name_itV (inI l x)
 rw [HR.out]
 go_enter Tryz.func90, Tryz.ntmps90
 go_wp2_with fail
 go_loopw [8] (fun s5 wx => ∃ k : Nat, k ≤ n ∧ s5 = .int .i64 (k : Nat) ∧ Hid (wx = w ∧ x ∉ l.take k)) (fun s5 _ => n - (intOf s5).toNat)
 case atStart => exact ⟨0, by omega, rfl, Lib.hid ⟨rfl, by simp⟩⟩
 case round =>
  obtain ⟨k, hk, rfl, hM⟩ := hrel
  by_cases hlt : k < n
  ·obtain ⟨y, hy⟩ : ∃ y, l[k]? = some y := ⟨l[k]'(by rw [← L1.out]; exact hlt), List.getElem?_eq_getElem _⟩
   have HY := Lib.hid hy
   obtain ⟨ad, rfl, _, q0⟩ := intAt (H1.out.keep IxR.good (w' := wr) (fun p _ => by rw [hM.out.1])) hy
   clear hy
   have e1 : (0 : Int) ≤ k := by omega
   have e2 : (k : Int) < n := by omega
   have w1 : IntKind.i64.wrap ((k : Int) + 1) = (k : Int) + 1 := IntWalk.i64_in _ (by omega)
   by_cases hxy : x = y
   ·subst hxy
    have t1 : (x == x) = true := beq_self_eq_true _
    have HN := Lib.hid (show r = true from by rw [← HR.out]; exact decide_eq_true (List.mem_of_getElem? HY.out))
    go_wp2_with fail
    go_ret
    exact ⟨(k : Int), rfl, by rw [HN.out]; simp, hM.out.1⟩
   ·have t1 : (x == y) = false := beq_eq_false_iff_ne.2 hxy
    have HXY := Lib.hid hxy
    clear hxy
    go_wp2_with fail
    go_roundw
    case rel =>
     refine ⟨k + 1, by omega, by go_num, Lib.hid ⟨hM.out.1, fun hm => ?_⟩⟩
     rw [take_oneMore HY.out] at hm
     rcases List.mem_append.1 hm with hm | hm
     ·exact hM.out.2 hm
     ·exact HXY.out (List.mem_singleton.1 hm)
    case measure => simp [intOf]; omega
  ·have hke : n = k := by omega
   subst hke
   have HN := Lib.hid (show r = false from by
    rw [← HR.out]
    refine decide_eq_false ?_
    have h := hM.out.2
    rw [List.take_of_length_le (by rw [← L1.out]; exact Nat.le_refl _)] at h
    exact h)
   go_wp2_with fail
   go_ret
   exact ⟨-1, rfl, by rw [HN.out]; simp, hM.out.1⟩
set_option maxRecDepth 100000 in
set_option maxHeartbeats 1000000 in
theorem containsI_any (l : List Int) (x : Int) (F : Nat → Prop) (A : Option Addr) (n c : Nat) (w : World) (h : SRd 1 IxR w F l A n) (hn : n ≤ 1000000000) :
    Calls Tryz.prog 68 #[.slice A n c, .int .i64 x] w (ToldS (inI l x) w) := by
 have HI := Lib.hid (idxI_any l x F A n c w h hn)
 clear h
 obtain ⟨r, HR⟩ := name_itV (inI l x)
 rw [HR.out] at HI ⊢
 clear HR
 go_enter Tryz.func68, Tryz.ntmps68
 go_wp2_with fail
 refine HI.out.mono ?_
 rintro e w' ⟨q, rfl, hq, rfl⟩
 go_wp2_with fail
 go_ret
 exact ⟨by rw [← hq]; rfl, rfl⟩
/-- How a triple lies: its three values, their lists in blocks of F. -/
def TrR : Lies Trip := fun w F t c => ∃ ss : Nat → Value, c = cellsT t ss ∧ ∀ n, n < 3 → VRd w F (t.get n) (.agg (cellsV (t.get n) (ss n)))
theorem TrR.good : TrR.Good := ⟨fun ⟨ss, e, h⟩ hk => ⟨ss, e, fun n hn => (h n hn).keep hk⟩, fun ⟨ss, e, h⟩ hF => ⟨ss, e, fun n hn => (h n hn).mono hF⟩⟩
/-- Sizes and numbers that a machine bears. -/
structure OkV (v : Val) : Prop where
 size : sizeV v ≤ 100000000
 n0 : -9223372036854775808 ≤ v.num
 n1 : v.num ≤ 9223372036854775807
theorem OkV.fit {v : Val} (h : OkV v) : FitV v := ⟨h.n0, h.n1, by
 have := h.size
 cases v with
 | mk k b n t x l =>
 simp only [sizeV] at this
 show t.size ≤ _
 omega⟩
def OkT (t : Trip) : Prop := OkV t.s ∧ OkV t.p ∧ OkV t.o
theorem OkT.get {t : Trip} (h : OkT t) (n : Nat) : OkV (t.get n) := by
 unfold Trip.get
 split
 ·exact h.1
 ·split
  ·exact h.2.1
  ·exact h.2.2
theorem mayT_scal {t : Trip} (h : mayT t = true) (hk : OkT t) : ScalT t := by
 unfold mayT at h
 simp only [Bool.and_eq_true, decide_eq_true_eq] at h
 exact ⟨⟨h.1, by omega, hk.1.n0, hk.1.n1⟩, ⟨h.2.1, by omega, hk.2.1.n0, hk.2.1.n1⟩, ⟨h.2.2.1, by omega, hk.2.2.n0, hk.2.2.n1⟩⟩
theorem results_row {P : Program} {fn : Func} {a : Tmp} {T T' : TypeId} {w : World} (h : fn.results = #[.cell a T]) {tmps : Array Value} {g : Nat} (ht : tmps.getD a undef = .pointer (some ⟨g, 0, none⟩)) {c : Array Value} (hw : w.heap[g]? = some (.cells c T' (0, 0)))
    (d : TypeDesc) (hu : P.underlying T = some d) (hd : d.isRow = true) (hi : (P.info? T).map (·.size) = some c.size) : (results fn tmps).run P w = .ok (.agg c) w := by
 have := run_loadVar_mid (P := P) w g 0 T c.toList d (range_row hw) hu hd (by rw [Array.length_toList]; exact hi)
 rw [Array.toArray_toList] at this
 have ht' : tmps[a]?.getD undef = .pointer (some ⟨g, 0, none⟩) := by rw [← ht]; simp
 simp [results, h, ht', asAddr, this]
def oKinds : List Int := [8, 9, 10, 4, 1, 2, 3]
theorem seven_rd (w : World) : SRd 1 IxR (w.alloc (.cells #[.int .i64 8, .int .i64 9, .int .i64 10, .int .i64 4, .int .i64 1, .int .i64 2, .int .i64 3] 3)) (fun b => b = w.heap.size) oKinds (some ⟨w.heap.size, 0, none⟩) 7 := by
 refine ⟨rfl, fun _ => ⟨_, rfl, rfl, fun i x hx => ⟨#[.int .i64 x], rfl, fun j hj => ?_, rfl⟩⟩⟩
 have hj0 : j = 0 := by omega
 subst hj0
 have hi := (List.getElem?_eq_some_iff.1 hx).1
 have hi7 : i < 7 := hi
 rcases (show i = 0 ∨ i = 1 ∨ i = 2 ∨ i = 3 ∨ i = 4 ∨ i = 5 ∨ i = 6 by omega) with rfl | rfl | rfl | rfl | rfl | rfl | rfl
 all_goals (injection hx with hx; subst hx; exact Lib.cell_of_heap (heap_alloc_new w _) _)
theorem mayT_in (s p o : Val) : mayT ⟨s, p, o⟩ = (mayV s 0 && (mayV p 0 && (mayV o 0 && (decide (p.kind = 8) && (decide (s.kind = 8 ∨ s.kind = 9) && inI oKinds o.kind))))) := by
 unfold mayT inI oKinds
 simp only [List.mem_cons, List.not_mem_nil, or_false]
theorem cellsT_lit (k0 : Int) (b0 : Bool) (n0 : Int) (t0 x0 : ByteArray) (l0 : List Val) (k1 : Int) (b1 : Bool) (n1 : Int) (t1 x1 : ByteArray) (l1 : List Val) (k2 : Int) (b2 : Bool) (n2 : Int) (t2 x2 : ByteArray) (l2 : List Val) (ss : Nat → Value) : cellsT ⟨.mk k0 b0 n0 t0 x0 l0, .mk k1 b1 n1 t1 x1 l1, .mk k2 b2 n2 t2 x2 l2⟩ ss = #[.int .i64 k0, .bool b0, .int .i64 n0, .string t0, .string x0, ss 0, .int .i64 k1, .bool b1, .int .i64 n1, .string t1, .string x1, ss 1, .int .i64 k2, .bool b2, .int .i64 n2, .string t2, .string x2, ss 2] := by kernel_rfl
def PartsIs (c : Array Value) (w : World) (e : Ending) (w' : World) : Prop := e = .returned (.agg c) ∧ Below w.heap.size w w'
set_option maxRecDepth 100000 in
set_option maxHeartbeats 2000000 in
theorem partsOf_any (t : Trip) (ss : Nat → Value) (hss : ∀ n, n < 3 → ∃ A l c, ss n = .slice A l c) (w : World) : Calls Tryz.prog 41 #[.agg (cellsT t ss)] w (PartsIs (cellsT t ss) w) := by
 obtain ⟨A0, l0', c0, h0⟩ := hss 0 (by omega)
 obtain ⟨A1, l1', c1, h1⟩ := hss 1 (by omega)
 obtain ⟨A2, l2', c2, h2⟩ := hss 2 (by omega)
 cases t with
 | mk s p o =>
 cases s with
 | mk k0 b0 n0 t0 x0 l0 =>
 cases p with
 | mk k1 b1 n1 t1 x1 l1 =>
 cases o with
 | mk k2 b2 n2 t2 x2 l2 =>
 rw [cellsT_lit, h0, h1, h2]
 clear h0 h1 h2 hss
 have st_info := Lib.hid (show (Tryz.prog.info? 75).map (·.size) = some 18 from by kernel_rfl)
 have st_one := Lib.hid (show (#[.int .i64 k0, .bool b0, .int .i64 n0, .string t0, .string x0, (.slice A0 l0' c0), .int .i64 k1, .bool b1, .int .i64 n1, .string t1, .string x1, (.slice A1 l1' c1), .int .i64 k2, .bool b2, .int .i64 n2, .string t2, .string x2, (.slice A2 l2' c2)] : Array Value).all (·.oneCell') = true from by kernel_rfl)
 obtain ⟨z, Hz⟩ := name_itV w.heap.size
 obtain ⟨w1, HW1⟩ := name_itV ((w.alloc (.cells #[.int .i64 k0, .bool b0, .int .i64 n0, .string t0, .string x0, (.slice A0 l0' c0), .int .i64 k1, .bool b1, .int .i64 n1, .string t1, .string x1, (.slice A1 l1' c1), .int .i64 k2, .bool b2, .int .i64 n2, .string t2, .string x2, (.slice A2 l2' c2)] 41)).alloc (.cells #[.int .i64 0, .bool false, .int .i64 0, .string ⟨#[]⟩, .string ⟨#[]⟩, .slice none 0 0, .int .i64 0, .bool false, .int .i64 0, .string ⟨#[]⟩, .string ⟨#[]⟩, .slice none 0 0, .int .i64 0, .bool false, .int .i64 0, .string ⟨#[]⟩, .string ⟨#[]⟩, .slice none 0 0] 75))
 have HB := Lib.hid (show Below w.heap.size w w1 from by rw [← HW1.out]; exact two_new w _ _)
 have HX := Lib.hid (show w1.heap[z]? = some (.cells #[.int .i64 k0, .bool b0, .int .i64 n0, .string t0, .string x0, (.slice A0 l0' c0), .int .i64 k1, .bool b1, .int .i64 n1, .string t1, .string x1, (.slice A1 l1' c1), .int .i64 k2, .bool b2, .int .i64 n2, .string t2, .string x2, (.slice A2 l2' c2)] 41 (0, 0)) from by rw [← HW1.out, ← Hz.out]; exact heap_alloc2_old w _ _)
 have HY := Lib.hid (show w1.heap[z + 1]? = some (.cells #[.int .i64 0, .bool false, .int .i64 0, .string ⟨#[]⟩, .string ⟨#[]⟩, .slice none 0 0, .int .i64 0, .bool false, .int .i64 0, .string ⟨#[]⟩, .string ⟨#[]⟩, .slice none 0 0, .int .i64 0, .bool false, .int .i64 0, .string ⟨#[]⟩, .string ⟨#[]⟩, .slice none 0 0] 75 (0, 0)) from by rw [← HW1.out, ← Hz.out]; exact heap_alloc2_new w _ _)
 go_enter Tryz.func41, Tryz.ntmps41
 go_upto_region 1 with fail
 rw [HW1.out, Hz.out]
 clear HW1
 have p0 := (show w1.cell? ⟨z, 0, none⟩ = some (.int .i64 k0) from Lib.cell_of_heap HX.out 0)
 have p1 := (show w1.cell? ⟨z, 1, none⟩ = some (.bool b0) from Lib.cell_of_heap HX.out 1)
 have p2 := (show w1.cell? ⟨z, 2, none⟩ = some (.int .i64 n0) from Lib.cell_of_heap HX.out 2)
 have p3 := (show w1.cell? ⟨z, 3, none⟩ = some (.string t0) from Lib.cell_of_heap HX.out 3)
 have p4 := (show w1.cell? ⟨z, 4, none⟩ = some (.string x0) from Lib.cell_of_heap HX.out 4)
 have p5 := (show w1.cell? ⟨z, 5, none⟩ = some (.slice A0 l0' c0) from Lib.cell_of_heap HX.out 5)
 have p6 := (show w1.cell? ⟨z, 6, none⟩ = some (.int .i64 k1) from Lib.cell_of_heap HX.out 6)
 have p7 := (show w1.cell? ⟨z, 7, none⟩ = some (.bool b1) from Lib.cell_of_heap HX.out 7)
 have p8 := (show w1.cell? ⟨z, 8, none⟩ = some (.int .i64 n1) from Lib.cell_of_heap HX.out 8)
 have p9 := (show w1.cell? ⟨z, 9, none⟩ = some (.string t1) from Lib.cell_of_heap HX.out 9)
 have p10 := (show w1.cell? ⟨z, 10, none⟩ = some (.string x1) from Lib.cell_of_heap HX.out 10)
 have p11 := (show w1.cell? ⟨z, 11, none⟩ = some (.slice A1 l1' c1) from Lib.cell_of_heap HX.out 11)
 have p12 := (show w1.cell? ⟨z, 12, none⟩ = some (.int .i64 k2) from Lib.cell_of_heap HX.out 12)
 have p13 := (show w1.cell? ⟨z, 13, none⟩ = some (.bool b2) from Lib.cell_of_heap HX.out 13)
 have p14 := (show w1.cell? ⟨z, 14, none⟩ = some (.int .i64 n2) from Lib.cell_of_heap HX.out 14)
 have p15 := (show w1.cell? ⟨z, 15, none⟩ = some (.string t2) from Lib.cell_of_heap HX.out 15)
 have p16 := (show w1.cell? ⟨z, 16, none⟩ = some (.string x2) from Lib.cell_of_heap HX.out 16)
 have p17 := (show w1.cell? ⟨z, 17, none⟩ = some (.slice A2 l2' c2) from Lib.cell_of_heap HX.out 17)
 go_wp2_with ((with_reducible refine at_st 2 ?_); refine st_row rfl 75 _ _ rfl (z + 1) (#[.int .i64 0, .bool false, .int .i64 0, .string ⟨#[]⟩, .string ⟨#[]⟩, .slice none 0 0, .int .i64 0, .bool false, .int .i64 0, .string ⟨#[]⟩, .string ⟨#[]⟩, .slice none 0 0, .int .i64 0, .bool false, .int .i64 0, .string ⟨#[]⟩, .string ⟨#[]⟩, .slice none 0 0]) (#[.int .i64 k0, .bool b0, .int .i64 n0, .string t0, .string x0, (.slice A0 l0' c0), .int .i64 k1, .bool b1, .int .i64 n1, .string t1, .string x1, (.slice A1 l1' c1), .int .i64 k2, .bool b2, .int .i64 n2, .string t2, .string x2, (.slice A2 l2' c2)]) 75 rfl rfl HY.out rfl st_info.out st_one.out ?_; intro w2 hw2 ht2)
 have HB2 := Lib.hid (show Below w.heap.size w w2 from HB.out.trans ⟨ht2.os, ht2.tape, ht2.output, ht2.size, fun k hk => ht2.block k (Nat.lt_of_lt_of_le hk HB.out.size) (by rw [← Hz.out]; omega)⟩)
 have HW2 := Lib.hid hw2
 clear hw2 ht2
 go_wp2_with fail
 refine bodyPost_ret (v := .agg #[.int .i64 k0, .bool b0, .int .i64 n0, .string t0, .string x0, (.slice A0 l0' c0), .int .i64 k1, .bool b1, .int .i64 n1, .string t1, .string x1, (.slice A1 l1' c1), .int .i64 k2, .bool b2, .int .i64 n2, .string t2, .string x2, (.slice A2 l2' c2)]) (results_row Tryz.results41 (g := z + 1) rfl HW2.out _ Tryz.underlying75 rfl st_info.out) rfl ⟨rfl, HB2.out⟩
set_option maxRecDepth 100000 in
set_option maxHeartbeats 8000000 in
theorem checkT_any (t : Trip) (ok : OkT t) (F : Nat → Prop) (ss : Nat → Value) (w : World) (hF : ∀ g, F g → g < w.heap.size) (hv : ∀ n, n < 3 → VRd w F (t.get n) (.agg (cellsV (t.get n) (ss n)))) (hg : GlobB w) :
    Calls Tryz.prog 31 #[.agg (cellsT t ss)] w (ToldB (mayT t) w) := by
 have hc0 := Lib.hid (fun (W : World) (hb : Below w.heap.size w W) => check_any t.s (Nat.le_trans ok.1.size (by decide)) F (.agg (cellsV t.s (ss 0))) W (fun g h => Nat.lt_of_lt_of_le (hF g h) hb.size) ((hv 0 (by omega)).under hb hF) (glob_under hg hb))
 have hc1 := Lib.hid (fun (W : World) (hb : Below w.heap.size w W) => check_any t.p (Nat.le_trans ok.2.1.size (by decide)) F (.agg (cellsV t.p (ss 1))) W (fun g h => Nat.lt_of_lt_of_le (hF g h) hb.size) ((hv 1 (by omega)).under hb hF) (glob_under hg hb))
 have hc2 := Lib.hid (fun (W : World) (hb : Below w.heap.size w W) => check_any t.o (Nat.le_trans ok.2.2.size (by decide)) F (.agg (cellsV t.o (ss 2))) W (fun g h => Nat.lt_of_lt_of_le (hF g h) hb.size) ((hv 2 (by omega)).under hb hF) (glob_under hg hb))
 clear ok hv hF hg
 unfold ToldB at hc0 hc1 hc2 ⊢
 cases t with
 | mk s p o =>
 rw [mayT_in]
 have D8 := Lib.hid (And.intro (fun h : p.kind = 8 => (decide_eq_true h : decide (p.kind = 8) = true)) (fun h : p.kind ≠ 8 => (decide_eq_false h : decide (p.kind = 8) = false)))
 have D9 := Lib.hid (And.intro (fun h : s.kind = 8 ∨ s.kind = 9 => (decide_eq_true h : decide (s.kind = 8 ∨ s.kind = 9) = true)) (fun h : ¬ (s.kind = 8 ∨ s.kind = 9) => (decide_eq_false h : decide (s.kind = 8 ∨ s.kind = 9) = false)))
 have hct := Lib.hid (fun (W : World) (g : Nat) (h : SRd 1 IxR W (fun b => b = g) oKinds (some ⟨g, 0, none⟩) 7) => containsI_any oKinds o.kind (fun b => b = g) (some ⟨g, 0, none⟩) 7 7 W h (by omega))
 unfold ToldS at hct
 obtain ⟨d8, Hd8⟩ := name_itV (decide (p.kind = 8))
 obtain ⟨d9, Hd9⟩ := name_itV (decide (s.kind = 8 ∨ s.kind = 9))
 obtain ⟨iv, Hiv⟩ := name_itV (inI oKinds o.kind)
 rw [Hd8.out] at D8 ⊢
 rw [Hd9.out] at D9 ⊢
 rw [Hiv.out] at hct ⊢
 clear Hd8 Hd9 Hiv
 obtain ⟨m0, H0⟩ := name_itV (mayV s 0)
 obtain ⟨m1, H1⟩ := name_itV (mayV p 0)
 obtain ⟨m2, H2⟩ := name_itV (mayV o 0)
 simp only at hc0 hc1 hc2
 rw [H0.out] at hc0 ⊢
 rw [H1.out] at hc1 ⊢
 rw [H2.out] at hc2 ⊢
 clear H0 H1 H2
 cases s with
 | mk k0 b0 n0 t0 x0 l0 =>
 cases p with
 | mk k1 b1 n1 t1 x1 l1 =>
 cases o with
 | mk k2 b2 n2 t2 x2 l2 =>
 unfold cellsV at hc0 hc1 hc2
 rw [cellsT_lit]
 simp only [Val.kind, Val.truth, Val.num, Val.text, Val.extra] at hc0 hc1 hc2 hct D8 D9 ⊢
 obtain ⟨u0, h0⟩ := name_itV (ss 0)
 obtain ⟨u1, h1⟩ := name_itV (ss 1)
 obtain ⟨u2, h2⟩ := name_itV (ss 2)
 rw [h0.out] at hc0 ⊢
 rw [h1.out] at hc1 ⊢
 rw [h2.out] at hc2 ⊢
 clear h0 h1 h2
 obtain ⟨z, Hz⟩ := name_itV w.heap.size
 obtain ⟨w1, HW1⟩ := name_itV (w.alloc (.cells #[.int .i64 k0, .bool b0, .int .i64 n0, .string t0, .string x0, u0, .int .i64 k1, .bool b1, .int .i64 n1, .string t1, .string x1, u1, .int .i64 k2, .bool b2, .int .i64 n2, .string t2, .string x2, u2] 41))
 have HB := Lib.hid (show Below w.heap.size w w1 from by rw [← HW1.out]; exact (Below.refl _ _).alloc (Nat.le_refl _) _)
 have HX := Lib.hid (show w1.heap[z]? = some (.cells #[.int .i64 k0, .bool b0, .int .i64 n0, .string t0, .string x0, u0, .int .i64 k1, .bool b1, .int .i64 n1, .string t1, .string x1, u1, .int .i64 k2, .bool b2, .int .i64 n2, .string t2, .string x2, u2] 41 (0, 0)) from by rw [← HW1.out, ← Hz.out]; exact heap_alloc_new w _)
 go_enter Tryz.func31, Tryz.ntmps31
 go_upto_region 1 with fail
 rw [HW1.out, Hz.out]
 clear HW1
 have p0 := (show w1.cell? ⟨z, 0, none⟩ = some (.int .i64 k0) from Lib.cell_of_heap HX.out 0)
 have p1 := (show w1.cell? ⟨z, 1, none⟩ = some (.bool b0) from Lib.cell_of_heap HX.out 1)
 have p2 := (show w1.cell? ⟨z, 2, none⟩ = some (.int .i64 n0) from Lib.cell_of_heap HX.out 2)
 have p3 := (show w1.cell? ⟨z, 3, none⟩ = some (.string t0) from Lib.cell_of_heap HX.out 3)
 have p4 := (show w1.cell? ⟨z, 4, none⟩ = some (.string x0) from Lib.cell_of_heap HX.out 4)
 have p5 := (show w1.cell? ⟨z, 5, none⟩ = some u0 from Lib.cell_of_heap HX.out 5)
 have p6 := (show w1.cell? ⟨z, 6, none⟩ = some (.int .i64 k1) from Lib.cell_of_heap HX.out 6)
 have p7 := (show w1.cell? ⟨z, 7, none⟩ = some (.bool b1) from Lib.cell_of_heap HX.out 7)
 have p8 := (show w1.cell? ⟨z, 8, none⟩ = some (.int .i64 n1) from Lib.cell_of_heap HX.out 8)
 have p9 := (show w1.cell? ⟨z, 9, none⟩ = some (.string t1) from Lib.cell_of_heap HX.out 9)
 have p10 := (show w1.cell? ⟨z, 10, none⟩ = some (.string x1) from Lib.cell_of_heap HX.out 10)
 have p11 := (show w1.cell? ⟨z, 11, none⟩ = some u1 from Lib.cell_of_heap HX.out 11)
 have p12 := (show w1.cell? ⟨z, 12, none⟩ = some (.int .i64 k2) from Lib.cell_of_heap HX.out 12)
 have p13 := (show w1.cell? ⟨z, 13, none⟩ = some (.bool b2) from Lib.cell_of_heap HX.out 13)
 have p14 := (show w1.cell? ⟨z, 14, none⟩ = some (.int .i64 n2) from Lib.cell_of_heap HX.out 14)
 have p15 := (show w1.cell? ⟨z, 15, none⟩ = some (.string t2) from Lib.cell_of_heap HX.out 15)
 have p16 := (show w1.cell? ⟨z, 16, none⟩ = some (.string x2) from Lib.cell_of_heap HX.out 16)
 have p17 := (show w1.cell? ⟨z, 17, none⟩ = some u2 from Lib.cell_of_heap HX.out 17)
 go_wp2_with fail
 refine (hc0.out _ HB.out).mono ?_
 rintro e w2 ⟨rfl, hb⟩
 have HB_w2 := Lib.hid (HB.out.trans (hb.mono HB.out.size))
 have HX_w2 := Lib.hid ((hb.block _ (blk_lt HX.out)).trans HX.out)
 clear hb p0 p1 p2 p3 p4 p5 p6 p7 p8 p9 p10 p11 p12 p13 p14 p15 p16 p17
 have p0 := (show w2.cell? ⟨z, 0, none⟩ = some (.int .i64 k0) from Lib.cell_of_heap HX_w2.out 0)
 have p1 := (show w2.cell? ⟨z, 1, none⟩ = some (.bool b0) from Lib.cell_of_heap HX_w2.out 1)
 have p2 := (show w2.cell? ⟨z, 2, none⟩ = some (.int .i64 n0) from Lib.cell_of_heap HX_w2.out 2)
 have p3 := (show w2.cell? ⟨z, 3, none⟩ = some (.string t0) from Lib.cell_of_heap HX_w2.out 3)
 have p4 := (show w2.cell? ⟨z, 4, none⟩ = some (.string x0) from Lib.cell_of_heap HX_w2.out 4)
 have p5 := (show w2.cell? ⟨z, 5, none⟩ = some u0 from Lib.cell_of_heap HX_w2.out 5)
 have p6 := (show w2.cell? ⟨z, 6, none⟩ = some (.int .i64 k1) from Lib.cell_of_heap HX_w2.out 6)
 have p7 := (show w2.cell? ⟨z, 7, none⟩ = some (.bool b1) from Lib.cell_of_heap HX_w2.out 7)
 have p8 := (show w2.cell? ⟨z, 8, none⟩ = some (.int .i64 n1) from Lib.cell_of_heap HX_w2.out 8)
 have p9 := (show w2.cell? ⟨z, 9, none⟩ = some (.string t1) from Lib.cell_of_heap HX_w2.out 9)
 have p10 := (show w2.cell? ⟨z, 10, none⟩ = some (.string x1) from Lib.cell_of_heap HX_w2.out 10)
 have p11 := (show w2.cell? ⟨z, 11, none⟩ = some u1 from Lib.cell_of_heap HX_w2.out 11)
 have p12 := (show w2.cell? ⟨z, 12, none⟩ = some (.int .i64 k2) from Lib.cell_of_heap HX_w2.out 12)
 have p13 := (show w2.cell? ⟨z, 13, none⟩ = some (.bool b2) from Lib.cell_of_heap HX_w2.out 13)
 have p14 := (show w2.cell? ⟨z, 14, none⟩ = some (.int .i64 n2) from Lib.cell_of_heap HX_w2.out 14)
 have p15 := (show w2.cell? ⟨z, 15, none⟩ = some (.string t2) from Lib.cell_of_heap HX_w2.out 15)
 have p16 := (show w2.cell? ⟨z, 16, none⟩ = some (.string x2) from Lib.cell_of_heap HX_w2.out 16)
 have p17 := (show w2.cell? ⟨z, 17, none⟩ = some u2 from Lib.cell_of_heap HX_w2.out 17)
 cases m0 with
 | false =>
  go_wp2_with fail
  go_ret
  exact ⟨rfl, HB_w2.out⟩
 | true =>
  go_wp2_with fail
  refine (hc1.out _ HB_w2.out).mono ?_
  rintro e w3 ⟨rfl, hb⟩
  have HB_w3 := Lib.hid (HB_w2.out.trans (hb.mono HB_w2.out.size))
  have HX_w3 := Lib.hid ((hb.block _ (blk_lt HX_w2.out)).trans HX_w2.out)
  clear hb p0 p1 p2 p3 p4 p5 p6 p7 p8 p9 p10 p11 p12 p13 p14 p15 p16 p17
  have p0 := (show w3.cell? ⟨z, 0, none⟩ = some (.int .i64 k0) from Lib.cell_of_heap HX_w3.out 0)
  have p1 := (show w3.cell? ⟨z, 1, none⟩ = some (.bool b0) from Lib.cell_of_heap HX_w3.out 1)
  have p2 := (show w3.cell? ⟨z, 2, none⟩ = some (.int .i64 n0) from Lib.cell_of_heap HX_w3.out 2)
  have p3 := (show w3.cell? ⟨z, 3, none⟩ = some (.string t0) from Lib.cell_of_heap HX_w3.out 3)
  have p4 := (show w3.cell? ⟨z, 4, none⟩ = some (.string x0) from Lib.cell_of_heap HX_w3.out 4)
  have p5 := (show w3.cell? ⟨z, 5, none⟩ = some u0 from Lib.cell_of_heap HX_w3.out 5)
  have p6 := (show w3.cell? ⟨z, 6, none⟩ = some (.int .i64 k1) from Lib.cell_of_heap HX_w3.out 6)
  have p7 := (show w3.cell? ⟨z, 7, none⟩ = some (.bool b1) from Lib.cell_of_heap HX_w3.out 7)
  have p8 := (show w3.cell? ⟨z, 8, none⟩ = some (.int .i64 n1) from Lib.cell_of_heap HX_w3.out 8)
  have p9 := (show w3.cell? ⟨z, 9, none⟩ = some (.string t1) from Lib.cell_of_heap HX_w3.out 9)
  have p10 := (show w3.cell? ⟨z, 10, none⟩ = some (.string x1) from Lib.cell_of_heap HX_w3.out 10)
  have p11 := (show w3.cell? ⟨z, 11, none⟩ = some u1 from Lib.cell_of_heap HX_w3.out 11)
  have p12 := (show w3.cell? ⟨z, 12, none⟩ = some (.int .i64 k2) from Lib.cell_of_heap HX_w3.out 12)
  have p13 := (show w3.cell? ⟨z, 13, none⟩ = some (.bool b2) from Lib.cell_of_heap HX_w3.out 13)
  have p14 := (show w3.cell? ⟨z, 14, none⟩ = some (.int .i64 n2) from Lib.cell_of_heap HX_w3.out 14)
  have p15 := (show w3.cell? ⟨z, 15, none⟩ = some (.string t2) from Lib.cell_of_heap HX_w3.out 15)
  have p16 := (show w3.cell? ⟨z, 16, none⟩ = some (.string x2) from Lib.cell_of_heap HX_w3.out 16)
  have p17 := (show w3.cell? ⟨z, 17, none⟩ = some u2 from Lib.cell_of_heap HX_w3.out 17)
  cases m1 with
  | false =>
   go_wp2_with fail
   go_ret
   exact ⟨rfl, HB_w3.out⟩
  | true =>
   go_wp2_with fail
   refine (hc2.out _ HB_w3.out).mono ?_
   rintro e w4 ⟨rfl, hb⟩
   have HB_w4 := Lib.hid (HB_w3.out.trans (hb.mono HB_w3.out.size))
   have HX_w4 := Lib.hid ((hb.block _ (blk_lt HX_w3.out)).trans HX_w3.out)
   clear hb p0 p1 p2 p3 p4 p5 p6 p7 p8 p9 p10 p11 p12 p13 p14 p15 p16 p17
   have p0 := (show w4.cell? ⟨z, 0, none⟩ = some (.int .i64 k0) from Lib.cell_of_heap HX_w4.out 0)
   have p1 := (show w4.cell? ⟨z, 1, none⟩ = some (.bool b0) from Lib.cell_of_heap HX_w4.out 1)
   have p2 := (show w4.cell? ⟨z, 2, none⟩ = some (.int .i64 n0) from Lib.cell_of_heap HX_w4.out 2)
   have p3 := (show w4.cell? ⟨z, 3, none⟩ = some (.string t0) from Lib.cell_of_heap HX_w4.out 3)
   have p4 := (show w4.cell? ⟨z, 4, none⟩ = some (.string x0) from Lib.cell_of_heap HX_w4.out 4)
   have p5 := (show w4.cell? ⟨z, 5, none⟩ = some u0 from Lib.cell_of_heap HX_w4.out 5)
   have p6 := (show w4.cell? ⟨z, 6, none⟩ = some (.int .i64 k1) from Lib.cell_of_heap HX_w4.out 6)
   have p7 := (show w4.cell? ⟨z, 7, none⟩ = some (.bool b1) from Lib.cell_of_heap HX_w4.out 7)
   have p8 := (show w4.cell? ⟨z, 8, none⟩ = some (.int .i64 n1) from Lib.cell_of_heap HX_w4.out 8)
   have p9 := (show w4.cell? ⟨z, 9, none⟩ = some (.string t1) from Lib.cell_of_heap HX_w4.out 9)
   have p10 := (show w4.cell? ⟨z, 10, none⟩ = some (.string x1) from Lib.cell_of_heap HX_w4.out 10)
   have p11 := (show w4.cell? ⟨z, 11, none⟩ = some u1 from Lib.cell_of_heap HX_w4.out 11)
   have p12 := (show w4.cell? ⟨z, 12, none⟩ = some (.int .i64 k2) from Lib.cell_of_heap HX_w4.out 12)
   have p13 := (show w4.cell? ⟨z, 13, none⟩ = some (.bool b2) from Lib.cell_of_heap HX_w4.out 13)
   have p14 := (show w4.cell? ⟨z, 14, none⟩ = some (.int .i64 n2) from Lib.cell_of_heap HX_w4.out 14)
   have p15 := (show w4.cell? ⟨z, 15, none⟩ = some (.string t2) from Lib.cell_of_heap HX_w4.out 15)
   have p16 := (show w4.cell? ⟨z, 16, none⟩ = some (.string x2) from Lib.cell_of_heap HX_w4.out 16)
   have p17 := (show w4.cell? ⟨z, 17, none⟩ = some u2 from Lib.cell_of_heap HX_w4.out 17)
   cases m2 with
   | false =>
    go_wp2_with fail
    go_ret
    exact ⟨rfl, HB_w4.out⟩
   | true =>
    by_cases hk1 : k1 = 8
    ·have e1 : (k1 != 8) = false := by simpa using hk1
     have E1 := Lib.hid (D8.out.1 hk1)
     clear hk1
     by_cases hk0 : k0 = 8
     ·have e0 : (k0 != 8) = false := by simpa using hk0
      have E0 := Lib.hid (D9.out.1 (.inl hk0))
      clear hk0
      have q12 : (w4.alloc (.cells #[.int .i64 8, .int .i64 9, .int .i64 10, .int .i64 4, .int .i64 1, .int .i64 2, .int .i64 3] 3)).cell? ⟨z, 12, none⟩ = some (.int .i64 k2) := Lib.cell_of_heap ((Below.heap_alloc _ _ _ (blk_lt HX_w4.out)).trans HX_w4.out) 12
      have hcl := Lib.hid (hct.out (w4.alloc (.cells #[.int .i64 8, .int .i64 9, .int .i64 10, .int .i64 4, .int .i64 1, .int .i64 2, .int .i64 3] 3)) w4.heap.size (seven_rd w4))
      clear D8 D9 hct
      go_wp2_with fail
      refine hcl.out.mono ?_
      rintro e w5 ⟨rfl, hw5⟩
      subst w5
      go_wp2_with fail
      go_ret
      exact ⟨by rw [E0.out, E1.out]; rfl, HB_w4.out.alloc (by have := HB_w4.out.size; omega) _⟩
     ·have e0 : (k0 != 8) = true := bne_iff_ne.2 hk0
      by_cases hk9 : k0 = 9
      ·have e9 : (k0 != 9) = false := by simpa using hk9
       have E0 := Lib.hid (D9.out.1 (.inr hk9))
       clear hk0 hk9
       have q12 : (w4.alloc (.cells #[.int .i64 8, .int .i64 9, .int .i64 10, .int .i64 4, .int .i64 1, .int .i64 2, .int .i64 3] 3)).cell? ⟨z, 12, none⟩ = some (.int .i64 k2) := Lib.cell_of_heap ((Below.heap_alloc _ _ _ (blk_lt HX_w4.out)).trans HX_w4.out) 12
       have hcl := Lib.hid (hct.out (w4.alloc (.cells #[.int .i64 8, .int .i64 9, .int .i64 10, .int .i64 4, .int .i64 1, .int .i64 2, .int .i64 3] 3)) w4.heap.size (seven_rd w4))
       clear D8 D9 hct
       go_wp2_with fail
       refine hcl.out.mono ?_
       rintro e w5 ⟨rfl, hw5⟩
       subst w5
       go_wp2_with fail
       go_ret
       exact ⟨by rw [E0.out, E1.out]; rfl, HB_w4.out.alloc (by have := HB_w4.out.size; omega) _⟩
      ·have e9 : (k0 != 9) = true := bne_iff_ne.2 hk9
       have E0 := Lib.hid (D9.out.2 (by omega))
       clear hk0 hk9
       go_wp2_with fail
       go_ret
       exact ⟨by rw [E0.out, E1.out]; rfl, HB_w4.out⟩
    ·have e1 : (k1 != 8) = true := bne_iff_ne.2 hk1
     have E1 := Lib.hid (D8.out.2 hk1)
     clear hk1
     go_wp2_with fail
     go_ret
     exact ⟨by rw [E1.out]; rfl, HB_w4.out⟩
end Go.Proofs.YtijciakkfpjjbaaGreatDoor
namespace Go.Proofs.YtijciakkfpjjbaaGreatDoor
open Go Go.RowKit

theorem run_loadVar_at {P : Program} (w : World) (a : Addr) (ty : TypeId) (c : Array Value) (d : TypeDesc) (hc : ∀ j, j < c.size → w.cell? (a.add j) = c[j]?)
    (hu : P.underlying ty = some d) (hd : d.isRow = true) (hi : (P.info? ty).map (·.size) = some c.size) : (loadVar ty a).run P w = .ok (.agg c) w := by
 have hl : (loadCells a c.size).run P w = .ok c w := by
  have := run_loadCells_list (P := P) w a c.toList (fun j v hv => by
   have hj : j < c.size := by have := (List.getElem?_eq_some_iff.1 hv).1; simpa using this
   rw [hc j hj, ← Array.getElem?_toList]
   exact hv)
  rw [Array.toArray_toList, Array.length_toList] at this
  exact this
 cases hq : P.info? ty with
 | none => simp [hq] at hi
 | some i =>
  have hs : i.size = c.size := by simpa [hq] using hi
  have hagg : (isAgg ty).run P w = .ok true w := by
   unfold isAgg
   rw [Sem.run_bind, run_underlying hu w]
   cases d <;> simp_all
  simp [loadVar, Sem.run_bind, hagg, sizeOf, typeInfo, hq, hs, hl]
/-- A struct is loaded from wherever it lies. -/
theorem ld_armA {P : Program} {ops : Array Oper} {rest : List Oper} {op : Oper} {a : Act} {w : World} {Q : Exit → Act → World → Prop} (hgd : op.guard = none) (ty : TypeId) (x : Operand) (ho : op.op = .load ty x) {p : Addr} (hx : a.eval x = .pointer (some p)) (c : Array Value) (d : TypeDesc) (hc : ∀ j, j < c.size → w.cell? (p.add j) = c[j]?)
    (hu : P.underlying ty = some d) (hd : d.isRow = true) (hi : (P.info? ty).map (·.size) = some c.size) (h : wpList P ops Q rest (a.put op.dst (.agg c)) w) : wpList P ops Q (op :: rest) a w :=
 wpList_plain hgd fun _ hK => by
  unfold Oper.wp execOp
  simp only [ho, hx, Instr.loadAt, Instr.sureAddr, Sem.run_bind, Sem.run_pure, Result.andThen_ok, run_loadVar_at w p ty c d hc hu hd hi]
  exact hK _ _ h
theorem infoTr : (Tryz.prog.info? 41).map (·.size) = some 18 := by kernel_rfl
theorem infoPt : (Tryz.prog.info? 75).map (·.size) = some 18 := by kernel_rfl
set_option maxRecDepth 100000 in
set_option maxHeartbeats 2000000 in
theorem bad_any (t : Trip) (ok : OkT t) (F : Nat → Prop) (ss : Nat → Value) (w : World) (hF : ∀ g, F g → g < w.heap.size) (hv : ∀ n, n < 3 → VRd w F (t.get n) (.agg (cellsV (t.get n) (ss n)))) (hg : GlobB w) :
    Calls Tryz.prog 40 #[.agg (cellsT t ss)] w (ToldB (!(mayT t)) w) := by
 have hc := Lib.hid (fun (W : World) (hb : Below w.heap.size w W) => checkT_any t ok F ss W (fun g h => Nat.lt_of_lt_of_le (hF g h) hb.size) (fun n hn => (hv n hn).under hb hF) (glob_under hg hb))
 clear hv hF hg ok
 unfold ToldB at hc ⊢
 obtain ⟨m, Hm⟩ := name_itV (mayT t)
 rw [Hm.out] at hc ⊢
 clear Hm
 obtain ⟨c1, Hc1⟩ := name18 t ss
 rw [Hc1.out] at hc ⊢
 have Q1 := Lib.hid (infoTr.trans (congrArg some Hc1.size.symm))
 obtain ⟨z, Hz⟩ := name_itV w.heap.size
 obtain ⟨w1, HW1⟩ := name_itV (w.alloc (.cells c1 41))
 have HB := Lib.hid (show Below w.heap.size w w1 from by rw [← HW1.out]; exact (Below.refl _ _).alloc (Nat.le_refl _) _)
 have HX := Lib.hid (show w1.heap[z]? = some (.cells c1 41 (0, 0)) from by rw [← HW1.out, ← Hz.out]; exact heap_alloc_new w _)
 go_enter Tryz.func40, Tryz.ntmps40
 go_upto_region 1 with fail
 rw [HW1.out, Hz.out]
 clear HW1
 go_wp2_with ((with_reducible refine at_dst (some 3) ?_); refine ld_arm rfl 41 _ rfl z 0 rfl c1 _ (range_row HX.out) Tryz.underlying41 rfl Q1.out ?_)
 refine (hc.out _ HB.out).mono ?_
 rintro e w2 ⟨rfl, hb⟩
 have HB2 := Lib.hid (HB.out.trans (hb.mono HB.out.size))
 clear hb
 go_wp2_with fail
 go_ret
 exact ⟨rfl, HB2.out⟩
/-- The cells of the k-th triple of a list. -/
theorem TrR.cells {w : World} {F : Nat → Prop} {L : List Trip} {A : Option Addr} {n : Nat} (h : SRd 18 TrR w F L A n) {k : Nat} {t : Trip} (ht : L[k]? = some t) :
    ∃ ad ss, A = some ad ∧ F ad.block ∧ (∀ j, j < (cellsT t ss).size → w.cell? ((ad.add (k * 18)).add j) = (cellsT t ss)[j]?) ∧ ∀ i, i < 3 → VRd w F (t.get i) (.agg (cellsV (t.get i) (ss i))) := by
 obtain ⟨ad, c, e, hF, hs, hc, ss, rfl, hr⟩ := h.at_ ht
 exact ⟨ad, ss, e, hF, fun j hj => by rw [add_of_add]; exact hc j hj, hr⟩
def AnyIs (b : Bool) (w : World) (e : Ending) (w' : World) : Prop := ∃ r : Int, e = .returned (.int .i64 r) ∧ decide (0 ≤ r) = b ∧ Below w.heap.size w w'
set_option maxRecDepth 100000 in
set_option maxHeartbeats 4000000 in
theorem idxF_any (L : List Trip) (hok : ∀ t, t ∈ L → OkT t) (F : Nat → Prop) (A : Option Addr) (n c : Nat) (w : World) (hF : ∀ g, F g → g < w.heap.size) (h : SRd 18 TrR w F L A n) (hn : n ≤ 1000000000) (hg : GlobB w) :
    Calls Tryz.prog 74 #[.slice A n c, .func (.func 40) #[] #[]] w (AnyIs (!(L.all mayT)) w) := by
 have H1 := Lib.hid (fun (W : World) (hb : Below w.heap.size w W) => h.under TrR.good hb hF)
 have L1 := Lib.hid h.1
 have hbad := Lib.hid (fun (W : World) (hb : Below w.heap.size w W) (t : Trip) (ht : t ∈ L) (ss : Nat → Value) (hv : ∀ n, n < 3 → VRd W F (t.get n) (.agg (cellsV (t.get n) (ss n)))) => bad_any t (hok t ht) F ss W (fun g h => Nat.lt_of_lt_of_le (hF g h) hb.size) hv (glob_under hg hb))
 unfold ToldB at hbad
 clear h hok hF hg
 obtain ⟨r, HR⟩ := name_itV (!(L.all mayT))
 rw [HR.out]
 go_enter Tryz.func74, Tryz.ntmps74
 go_wp2_with fail
 go_loopw [8] (fun s5 wx => ∃ k : Nat, k ≤ n ∧ s5 = .int .i64 (k : Nat) ∧ Hid (Below w.heap.size w wx ∧ (L.take k).all mayT = true)) (fun s5 _ => n - (intOf s5).toNat)
 case atStart => exact ⟨0, by omega, rfl, Lib.hid ⟨Below.refl _ _, by simp⟩⟩
 case round =>
  obtain ⟨k, hk, rfl, hM⟩ := hrel
  by_cases hlt : k < n
  ·obtain ⟨y, hy⟩ : ∃ y, L[k]? = some y := ⟨L[k]'(by rw [← L1.out]; exact hlt), List.getElem?_eq_getElem _⟩
   have HY := Lib.hid hy
   obtain ⟨ad, ss, rfl, _, hq, hr⟩ := TrR.cells (H1.out wr hM.out.1) hy
   have hcall := Lib.hid (hbad.out wr hM.out.1 y (List.mem_of_getElem? hy) ss hr)
   clear hy hr
   obtain ⟨m, Hm⟩ := name_itV (mayT y)
   rw [Hm.out] at hcall
   obtain ⟨c1, Hc1⟩ := name18 y ss
   rw [Hc1.out] at hcall hq
   have HQ := Lib.hid hq
   clear hq
   have Q1 := Lib.hid (infoTr.trans (congrArg some Hc1.size.symm))
   have e1 : (0 : Int) ≤ k := by omega
   have e2 : (k : Int) < n := by omega
   have w1 : IntKind.i64.wrap ((k : Int) + 1) = (k : Int) + 1 := IntWalk.i64_in _ (by omega)
   go_wp2_with ((with_reducible refine at_dst (some 15) ?_); refine ld_armA rfl 41 _ rfl rfl c1 _ HQ.out Tryz.underlying41 rfl Q1.out ?_)
   refine hcall.out.mono ?_
   rintro e w2 ⟨rfl, hb⟩
   have HB2 := Lib.hid (hM.out.1.trans (hb.mono hM.out.1.size))
   have HA := Lib.hid hM.out.2
   clear hb hM hcall HQ
   cases m with
   | false =>
    have HN := Lib.hid (show r = true from by
     rw [← HR.out, Bool.not_eq_true', List.all_eq_false]
     exact ⟨y, List.mem_of_getElem? HY.out, by rw [Hm.out]; exact Bool.false_ne_true⟩)
    go_wp2_with fail
    go_ret
    exact ⟨(k : Int), rfl, by rw [HN.out]; simp, HB2.out⟩
   | true =>
    go_wp2_with fail
    go_roundw
    case rel => exact ⟨k + 1, by omega, by go_num, Lib.hid ⟨HB2.out, by rw [take_oneMore HY.out, List.all_append, HA.out, Bool.true_and]; simp [Hm.out]⟩⟩
    case measure => simp [intOf]; omega
  ·have hke : n = k := by omega
   subst hke
   have HN := Lib.hid (show r = false from by
    rw [← HR.out, Bool.not_eq_false']
    have h := hM.out.2
    rw [List.take_of_length_le (by rw [← L1.out]; exact Nat.le_refl _)] at h
    exact h)
   go_wp2_with fail
   go_ret
   exact ⟨-1, rfl, by rw [HN.out]; simp, hM.out.1⟩
set_option maxRecDepth 100000 in
set_option maxHeartbeats 1000000 in
theorem containsF_any (L : List Trip) (hok : ∀ t, t ∈ L → OkT t) (F : Nat → Prop) (A : Option Addr) (n c : Nat) (w : World) (hF : ∀ g, F g → g < w.heap.size) (h : SRd 18 TrR w F L A n) (hn : n ≤ 1000000000) (hg : GlobB w) :
    Calls Tryz.prog 39 #[.slice A n c, .func (.func 40) #[] #[]] w (ToldB (!(L.all mayT)) w) := by
 have HI := Lib.hid (idxF_any L hok F A n c w hF h hn hg)
 unfold AnyIs at HI
 clear h hok hF hg
 obtain ⟨r, HR⟩ := name_itV (!(L.all mayT))
 rw [HR.out] at HI ⊢
 clear HR
 go_enter Tryz.func39, Tryz.ntmps39
 go_wp2_with fail
 refine HI.out.mono ?_
 rintro e w1 ⟨q, rfl, hr, hb⟩
 have HQ := Lib.hid hr
 clear hr
 go_wp2_with fail
 go_ret
 exact ⟨by rw [← HQ.out]; rfl, hb⟩
/-- The three numbers of a way. -/
def wayC (W : Way) : Array Value := #[.int .i64 (W.i : Nat), .int .i64 (W.j : Nat), .int .i64 (W.k : Nat)]
set_option maxRecDepth 100000 in
set_option maxHeartbeats 2000000 in
theorem clos2_any (W : Way) (hW : W.Ok) (a b : Trip) (sa sb : Nat → Value) (g : Nat) (w : World) (hp : w.heap[g]? = some (.cells (wayC W) 77 (0, 0))) (ka : ∀ n, KindT (a.get n)) (fb : ∀ n, FitV (b.get n)) (hgb : GlobB w) (hgt : GlobT w) :
    Calls Tryz.prog 44 #[.agg (cellsT a sa), .agg (cellsT b sb), .pointer (some ⟨g, 0, none⟩)] w (AlIs W a b w) := by
 have hc := Lib.hid (fun (W' : World) (hb : Below w.heap.size w W') => along_any W hW a b sa sb W' ka fb (glob_under hgb hb) (globT_under hgt hb))
 clear ka fb hgb hgt hW
 unfold AlIs at hc ⊢
 obtain ⟨v, Hv⟩ := name_itV (along W a b)
 rw [Hv.out] at hc ⊢
 clear Hv
 obtain ⟨c1, Hc1⟩ := name18 a sa
 obtain ⟨c2, Hc2⟩ := name18 b sb
 rw [Hc1.out, Hc2.out] at hc ⊢
 have Q1 := Lib.hid (infoPt.trans (congrArg some Hc1.size.symm))
 have Q2 := Lib.hid (infoPt.trans (congrArg some Hc2.size.symm))
 obtain ⟨z, Hz⟩ := name_itV w.heap.size
 obtain ⟨w1, HW1⟩ := name_itV ((w.alloc (.cells c1 75)).alloc (.cells c2 75))
 have HB := Lib.hid (show Below w.heap.size w w1 from by rw [← HW1.out]; exact two_new w _ _)
 have HX := Lib.hid (show w1.heap[z]? = some (.cells c1 75 (0, 0)) from by rw [← HW1.out, ← Hz.out]; exact heap_alloc2_old w _ _)
 have HY := Lib.hid (show w1.heap[z + 1]? = some (.cells c2 75 (0, 0)) from by rw [← HW1.out, ← Hz.out]; exact heap_alloc2_new w _ _)
 have HP := Lib.hid (show w1.heap[g]? = some (.cells (wayC W) 77 (0, 0)) from (HB.out.block g (blk_lt hp)).trans hp)
 clear hp
 obtain ⟨i, Hi⟩ := name_itV W.i
 obtain ⟨j, Hj⟩ := name_itV W.j
 obtain ⟨l, Hl⟩ := name_itV W.k
 unfold wayC at HP
 rw [Hi.out, Hj.out, Hl.out] at hc HP
 have p0 : w1.cell? ⟨g, 0, none⟩ = some (.int .i64 (i : Nat)) := Lib.cell_of_heap HP.out 0
 have p1 : w1.cell? ⟨g, 1, none⟩ = some (.int .i64 (j : Nat)) := Lib.cell_of_heap HP.out 1
 have p2 : w1.cell? ⟨g, 2, none⟩ = some (.int .i64 (l : Nat)) := Lib.cell_of_heap HP.out 2
 go_enter Tryz.func44, Tryz.ntmps44
 go_upto_region 1 with fail
 rw [HW1.out, Hz.out]
 clear HW1
 go_wp2_with (first
  | ((with_reducible refine at_dst (some 6) ?_); refine ld_arm rfl 75 _ rfl z 0 rfl c1 _ (range_row HX.out) Tryz.underlying75 rfl Q1.out ?_)
  | ((with_reducible refine at_dst (some 7) ?_); refine ld_arm rfl 75 _ rfl (z + 1) 0 rfl c2 _ (range_row HY.out) Tryz.underlying75 rfl Q2.out ?_))
 refine (hc.out _ HB.out).mono ?_
 rintro e w2 ⟨rfl, hb⟩
 have HB2 := Lib.hid (HB.out.trans (hb.mono HB.out.size))
 clear hb p0 p1 p2
 go_wp2_with fail
 go_ret
 exact ⟨rfl, HB2.out⟩
set_option maxRecDepth 100000 in
set_option maxHeartbeats 2000000 in
theorem clos3_any (W : Way) (hW : W.Ok) (a b : Trip) (sa sb : Nat → Value) (g : Nat) (w : World) (hp : w.heap[g]? = some (.cells (wayC W) 77 (0, 0))) (ka : ∀ n, KindT (a.get n)) (fb : ∀ n, FitV (b.get n)) (hgb : GlobB w) (hgt : GlobT w) :
    Calls Tryz.prog 47 #[.agg (cellsT a sa), .agg (cellsT b sb), .pointer (some ⟨g, 0, none⟩)] w (ToldB (along W a b == 0) w) := by
 have hc := Lib.hid (fun (W' : World) (hb : Below w.heap.size w W') => along_any W hW a b sa sb W' ka fb (glob_under hgb hb) (globT_under hgt hb))
 clear ka fb hgb hgt hW
 unfold AlIs at hc
 unfold ToldB
 obtain ⟨v, Hv⟩ := name_itV (along W a b)
 rw [Hv.out] at hc ⊢
 clear Hv
 obtain ⟨c1, Hc1⟩ := name18 a sa
 obtain ⟨c2, Hc2⟩ := name18 b sb
 rw [Hc1.out, Hc2.out] at hc ⊢
 have Q1 := Lib.hid (infoPt.trans (congrArg some Hc1.size.symm))
 have Q2 := Lib.hid (infoPt.trans (congrArg some Hc2.size.symm))
 obtain ⟨z, Hz⟩ := name_itV w.heap.size
 obtain ⟨w1, HW1⟩ := name_itV ((w.alloc (.cells c1 75)).alloc (.cells c2 75))
 have HB := Lib.hid (show Below w.heap.size w w1 from by rw [← HW1.out]; exact two_new w _ _)
 have HX := Lib.hid (show w1.heap[z]? = some (.cells c1 75 (0, 0)) from by rw [← HW1.out, ← Hz.out]; exact heap_alloc2_old w _ _)
 have HY := Lib.hid (show w1.heap[z + 1]? = some (.cells c2 75 (0, 0)) from by rw [← HW1.out, ← Hz.out]; exact heap_alloc2_new w _ _)
 have HP := Lib.hid (show w1.heap[g]? = some (.cells (wayC W) 77 (0, 0)) from (HB.out.block g (blk_lt hp)).trans hp)
 clear hp
 obtain ⟨i, Hi⟩ := name_itV W.i
 obtain ⟨j, Hj⟩ := name_itV W.j
 obtain ⟨l, Hl⟩ := name_itV W.k
 unfold wayC at HP
 rw [Hi.out, Hj.out, Hl.out] at hc HP
 have p0 : w1.cell? ⟨g, 0, none⟩ = some (.int .i64 (i : Nat)) := Lib.cell_of_heap HP.out 0
 have p1 : w1.cell? ⟨g, 1, none⟩ = some (.int .i64 (j : Nat)) := Lib.cell_of_heap HP.out 1
 have p2 : w1.cell? ⟨g, 2, none⟩ = some (.int .i64 (l : Nat)) := Lib.cell_of_heap HP.out 2
 go_enter Tryz.func47, Tryz.ntmps47
 go_upto_region 1 with fail
 rw [HW1.out, Hz.out]
 clear HW1
 go_wp2_with (first
  | ((with_reducible refine at_dst (some 6) ?_); refine ld_arm rfl 75 _ rfl z 0 rfl c1 _ (range_row HX.out) Tryz.underlying75 rfl Q1.out ?_)
  | ((with_reducible refine at_dst (some 7) ?_); refine ld_arm rfl 75 _ rfl (z + 1) 0 rfl c2 _ (range_row HY.out) Tryz.underlying75 rfl Q2.out ?_))
 refine (hc.out _ HB.out).mono ?_
 rintro e w2 ⟨rfl, hb⟩
 have HB2 := Lib.hid (HB.out.trans (hb.mono HB.out.size))
 clear hb p0 p1 p2
 go_wp2_with fail
 go_ret
 exact ⟨rfl, HB2.out⟩
end Go.Proofs.YtijciakkfpjjbaaGreatDoor
