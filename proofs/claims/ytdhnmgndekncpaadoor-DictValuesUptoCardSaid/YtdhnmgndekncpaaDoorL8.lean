/- A column of numbers: a first value is put. -/
import Derived.Test.YtdhnmgndekncpaaDoorL7
namespace Go.Proofs.YtdhnmgndekncpaaDoor
open Go Go.RowKit Go.Maps Go.WideMaps

theorem infoI64 : (Tryd.prog.info? 2).map (fun i => (i.zero, i.size, i.bytes)) = some (some (.int .i64 0), 1, 8) := by kernel_rfl
theorem infoU64 : (Tryd.prog.info? 112).map (fun i => (i.zero, i.size, i.bytes)) = some (some (.int .u64 0), 1, 8) := by kernel_rfl
theorem one_int (k : IntKind) (x : Int) : ∀ u ∈ (#[Value.int k x] : Array Value).toList, u.oneCell' = true := by
  intro u hu; simp at hu; subst hu; rfl

/-- What may turn where a column takes a value more. -/
def SC (c : Nat) (v u : Value) : Nat → Prop := fun i => i = c ∨ some i = v.ownBlock ∨ some i = u.ownBlock

set_option maxRecDepth 100000 in
set_option maxHeartbeats 400000 in
theorem putC_plain {w : World} {B c nl : Nat} {v u : Value} {xs bs : List Int} (h : ColI w B c v u xs bs nl) (hB : B ≤ w.heap.size) (hc : v.ownBlock ≠ some c) (hu : ∀ g, u.ownBlock = some g → g < w.heap.size ∧ g ≠ c ∧ v.ownBlock ≠ some g) (x : Int) (hx : xs.length ≤ 100000) (hm : ((xs.length : Int) % 64 == 0) = false) :
    Calls Tryd.prog 52 #[.pointer (some ⟨c, 0, none⟩), .int .i64 x, .bool false] w fun e w' => e = .returned (.tuple #[]) ∧
      (∃ v', ColI w' B c v' u (xs ++ [x]) bs nl) ∧ Turn (SC c v u) w w' := by
  have hcl : c < w.heap.size := by
    rcases Nat.lt_or_ge c w.heap.size with h' | h'
    · exact h'
    · have := h.blk
      rw [Array.getElem?_eq_none h'] at this; cases this
  have hf : ∃ A cp, v = .slice A xs.length cp := by
    rcases h.vals.2 with ⟨rfl, h0⟩ | ⟨g, cp, cur, rfl, _⟩
    · exact ⟨none, 0, by rw [h0]⟩
    · exact ⟨_, cp, rfl⟩
  obtain ⟨A, cp, rfl⟩ := hf
  have c0 : w.cell? ⟨c, 0, none⟩ = some (.slice A xs.length cp) := Lib.cell_of_heap h.blk 0
  have HX := Lib.hid h
  have hv := Lib.hid h.vals
  clear h
  obtain ⟨n, HN⟩ := name_it xs.length
  rw [HN.out] at hx hm c0 hv HX hc hu ⊢
  go_enter Tryd.func52, Tryd.ntmps52
  go_wp2_with (at_builtin; refine app_new rfl _ _ 107 rfl B 2 (.int .i64 0) 1 8 Tryd.underlying107 infoI64 rfl (by decide) _ _ _ rfl hv.out hB #[.int .i64 x] 1 1 rfl rfl (one_int _ _) (by omega) (by omega) (by decide) ?_; intro g4 cp4 w4 ho4 hg4 hl4; have HO4 := Lib.hid ho4; have HG4 := Lib.hid (show w.grownBy w4 (Value.slice A n cp).ownBlock from hg4);  have HL4 := Lib.hid (show (Value.slice A n cp).ownBlock = some g4 ∨ w.heap.size ≤ g4 from hl4); have hs4 : w.heap.size ≤ w4.heap.size := HG4.out.size; have HC4 := Lib.hid ((HG4.out.block c hcl (fun e => hc e.symm)).trans HX.out.blk); have f4 : w4.frozen? ⟨c, 0, none⟩ = false := Lib.frozen_of_heap HC4.out 0; have d0 : w4.cell? ⟨c, 0, none⟩ = some (.slice A n cp) := Lib.cell_of_heap HC4.out 0; clear ho4 hg4 hl4)
  go_end0
  have hgc : g4 ≠ c := by
    rcases HL4.out with h0 | h0
    · exact fun e => hc (by rw [h0, e])
    · omega
  have hlen : (xs ++ [x]).length = n + 1 := by rw [← HN.out]; simp
  refine ⟨rfl, ⟨_, heap_setCell_same w4 c 0 _ 110 _ HC4.out, ?_, ?_, HX.out.loc⟩, ?_⟩
  · rw [hlen, List.map_append]
    exact ownsRow_setCell_other HO4.out (a := ⟨c, 0, none⟩) (fun e => hgc (by injection e)) _
  · exact ownsRow_setCell_other ((Turn.of_grown HG4.out).owns HX.out.bits (fun k hk e => (hu k hk).2.2 e.symm)) (a := ⟨c, 0, none⟩) (fun e => (hu c e).2.1 rfl) _
  · exact ((Turn.of_grown HG4.out).mono (fun i _ h => .inr (.inl h))).setCell (p := ⟨c, 0, none⟩) (.inr (.inl rfl)) _
end Go.Proofs.YtdhnmgndekncpaaDoor
