/- A dictionary of texts: the key of a number; it stands where other blocks turn. -/
import Derived.Test.YtdhnmgndekncpaaDoorL1
namespace Go.Proofs.YtdhnmgndekncpaaDoor
open Go Go.RowKit Go.Maps Go.WideMaps

theorem DictS.turn {S : Nat → Prop} {w w' : World} {B b m : Nat} {v : Value} {ks : List ByteArray} {D : DataW Unit} (h : DictS w B b m v ks D) (ht : Turn S w w') (hb : ¬ S b) (hm : ¬ S m) (hv : ∀ g, v.ownBlock = some g → ¬ S g) : DictS w' B b m v ks D := by
  have hlt : b < w.heap.size := by
    rcases Nat.lt_or_ge b w.heap.size with h' | h'
    · exact h'
    · have := h.blk
      rw [Array.getElem?_eq_none h'] at this; cases this
  exact ⟨(ht.block b hlt hb).trans h.blk, ht.map h.map hm, h.ids, ht.owns h.row hv, h.lob, h.lom⟩
/-- All of its blocks lie from B on, and are there. -/
theorem DictS.lt {w : World} {B b m : Nat} {v : Value} {ks : List ByteArray} {D : DataW Unit} (h : DictS w B b m v ks D) : b < w.heap.size ∧ m < w.heap.size ∧ ∀ g, v.ownBlock = some g → B ≤ g ∧ g < w.heap.size := by
  refine ⟨?_, h.map.lt, fun g hg => h.row.lt g hg⟩
  rcases Nat.lt_or_ge b w.heap.size with h' | h'
  · exact h'
  · have := h.blk
    rw [Array.getElem?_eq_none h'] at this; cases this
theorem SB_ge {w : World} {B b m : Nat} {v : Value} {ks : List ByteArray} {D : DataW Unit} (h : DictS w B b m v ks D) : ∀ i, SB b m v i → B ≤ i := by
  rintro i (rfl | rfl | hi)
  · exact h.lob
  · exact h.lom
  · exact (h.lt.2.2 i hi.symm).1
theorem DictS.below {w w' : World} {B B' b m : Nat} {v : Value} {ks : List ByteArray} {D : DataW Unit} (h : DictS w B b m v ks D) (hb : Below B' w w') (h1 : b < B') (h2 : m < B') (h3 : ∀ g, v.ownBlock = some g → g < B') : DictS w' B b m v ks D :=
  h.turn (Turn.of_below hb) (by omega) (by omega) (fun g hg => by have := h3 g hg; omega)

set_option maxRecDepth 100000 in
set_option maxHeartbeats 400000 in
theorem keyS_yes {w : World} {B b m : Nat} {v : Value} {ks : List ByteArray} {D : DataW Unit} (h : DictS w B b m v ks D) (k : Nat) (hk : k < ks.length) (hn : ks.length ≤ 100000) :
    Calls Tryd.prog 23 #[.pointer (some ⟨b, 0, none⟩), .int .i64 k] w fun e w' => e = .returned (.tuple #[.string ks[k], .bool true]) ∧ w' = w := by
  have c1 := h.c1
  obtain ⟨g, cp, rfl, _, _⟩ := h.row.form (by omega)
  have hc : w.cell? ⟨g, k, none⟩ = some (.string ks[k]) := by
    rw [h.row.cellAt k (by omega), List.getElem?_map, List.getElem?_eq_getElem hk]
    rfl
  obtain ⟨n, HN⟩ := name_it ks.length
  obtain ⟨x, HX⟩ := name_it ks[k]
  rw [HX.out] at hc ⊢
  rw [HN.out] at hk hn c1
  have t1 : decide ((k : Int) < 0) = false := decide_eq_false (by omega)
  have t2 : decide ((n : Int) ≤ k) = false := decide_eq_false (by omega)
  have t3 : decide (n ≤ k) = false := decide_eq_false (by omega)
  have e1 : (0 : Int) ≤ k := by omega
  have e2 : (k : Int) < n := by omega
  go_enter Tryd.func23, Tryd.ntmps23
  go_wp2
  go_ret2
  exact ⟨rfl, rfl⟩

set_option maxRecDepth 100000 in
set_option maxHeartbeats 400000 in
theorem keyS_no {w : World} {B b m : Nat} {v : Value} {ks : List ByteArray} {D : DataW Unit} (h : DictS w B b m v ks D) (i : Int) (hi : i < 0 ∨ (ks.length : Int) ≤ i) :
    Calls Tryd.prog 23 #[.pointer (some ⟨b, 0, none⟩), .int .i64 i] w fun e w' => e = .returned (.tuple #[.string ⟨#[]⟩, .bool false]) ∧ w' = w := by
  have c1 := h.c1
  obtain ⟨A, cp, rfl⟩ := h.form
  obtain ⟨n, HN⟩ := name_it ks.length
  rw [HN.out] at hi c1
  by_cases h0 : i < 0
  · have t1 : decide (i < 0) = true := decide_eq_true h0
    go_enter Tryd.func23, Tryd.ntmps23
    go_wp2
    go_ret2
    exact ⟨rfl, rfl⟩
  · have t1 : decide (i < 0) = false := decide_eq_false h0
    have t2 : decide ((n : Int) ≤ i) = true := decide_eq_true (by omega)
    go_enter Tryd.func23, Tryd.ntmps23
    go_wp2
    go_ret2
    exact ⟨rfl, rfl⟩

end Go.Proofs.YtdhnmgndekncpaaDoor
