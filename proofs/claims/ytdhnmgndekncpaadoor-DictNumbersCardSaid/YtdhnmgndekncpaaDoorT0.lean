/- A dictionary of numbers: made; the number of a key; its length; the key of a number. -/
import Derived.Test.YtdhnmgndekncpaaDoorL2
namespace Go.Proofs.YtdhnmgndekncpaaDoor
open Go Go.RowKit Go.Maps Go.WideMaps

def VI (x : Int) : Prop := (Lit.int .i64 x).wf = true
def litI (x : Int) : Lit := .int .i64 x
theorem litI_inj : ∀ x y : Int, VI x → VI y → litI x = litI y → x = y := fun x y _ _ h => by
  unfold litI at h
  injection h
theorem litI_key : ∀ x : Int, VI x → WideAt.IsKeyLit (litI x) := fun _ _ => trivial
theorem law3 : Keyed Tryd.prog 3 := int_keyed Tryd.underlying3
theorem infoInt3 : (Tryd.prog.info? 3).map (fun i => (i.zero, i.size, i.bytes)) = some (some (.int .i64 0), 1, 8) := by kernel_rfl
theorem one_i64 (x : Int) : ∀ u ∈ (#[Value.int .i64 x] : Array Value).toList, u.oneCell' = true := by
  intro u hu; simp at hu; subst hu; rfl

/-- A dictionary of numbers in memory: its struct in block b, its map in block m, its keys in the slice v. -/
structure DictI (w : World) (B b m : Nat) (v : Value) (ks : List Int) (D : DataW Unit) : Prop where
  blk : w.heap[b]? = some (.cells #[.map (some m), v] 98 (0, 0))
  map : w.ownsMap Tryd.prog 3 (plainElem Tryd.prog 3) m ks.length D
  ids : IdsOf VI litI D ks
  row : w.ownsRow B 3 1 v ks.length (ks.map (.int .i64))
  lob : B ≤ b
  lom : B ≤ m

section
variable {w : World} {B b m : Nat} {v : Value} {ks : List Int} {D : DataW Unit}
theorem DictI.c0 (h : DictI w B b m v ks D) : w.cell? ⟨b, 0, none⟩ = some (.map (some m)) := Lib.cell_of_heap h.blk 0
theorem DictI.c1 (h : DictI w B b m v ks D) : w.cell? ⟨b, 1, none⟩ = some v := Lib.cell_of_heap h.blk 1
theorem DictI.f1 (h : DictI w B b m v ks D) : w.frozen? ⟨b, 1, none⟩ = false := Lib.frozen_of_heap h.blk 1
theorem DictI.form (h : DictI w B b m v ks D) : ∃ A cp, v = .slice A ks.length cp := by
  rcases h.row.2 with ⟨rfl, h0⟩ | ⟨g, cp, cur, rfl, _⟩
  · exact ⟨none, 0, by rw [h0]⟩
  · exact ⟨_, cp, rfl⟩
end


set_option maxRecDepth 100000 in
set_option maxHeartbeats 400000 in
theorem newDI_size (w : World) : Calls Tryd.prog 8 #[] w fun e w' => e = .returned (.pointer (some ⟨w.heap.size + 1, 0, none⟩)) ∧ DictI w' w.heap.size (w.heap.size + 1) w.heap.size (.slice none 0 0) [] (.map []) ∧ Below w.heap.size w w' ∧ w'.heap.size = w.heap.size + 2 := by
  have hmm := @run_makeMap Tryd.prog
  go_enter Tryd.func8, Tryd.ntmps8
  go_wp2
  go_ret
  refine ⟨by simp, ⟨?_, ?_, ids_empty, World.ownsRow_nil _ _ _ _, by omega, by omega⟩, ((Below.refl _ _).alloc (Nat.le_refl _) _).alloc (by simp) _, by simp⟩
  · have := heap_alloc_new (w.alloc (.map #[] 0)) (.cells #[.map (some w.heap.size), .slice none 0 0] 98)
    simpa using this
  · exact (World.ownsMap_made w _ _ _).alloc _


set_option maxRecDepth 100000 in
set_option maxHeartbeats 400000 in
theorem idDI_old {w : World} {B b m : Nat} {v : Value} {ks : List Int} {D : DataW Unit} (h : DictI w B b m v ks D) (k : Int) (hk : VI k) (hin : k ∈ ks) :
    Calls Tryd.prog 11 #[.pointer (some ⟨b, 0, none⟩), .int .i64 k] w fun e w' => e = .returned (.int .i64 ((place ks k : Nat) : Int)) ∧ w' = w := by
  have c0 := h.c0
  have hkey := keyOf_int_mk Tryd.underlying3 hk
  obtain ⟨h1, h2⟩ := h.ids.2 k hk
  have HH := Lib.hid (show Maps.has D (.int .i64 k) = true by rw [show (Lit.int .i64 k) = litI k from rfl, h1]; simp [hin])
  have HA := Lib.hid (h2 hin)
  clear h1 h2
  go_enter Tryd.func11, Tryd.ntmps11
  go_wp2_with (at_lookup; refine wpList_lookup_own_ok_int _ rfl _ _ 96 rfl 3 3 .i64 law3 Tryd.underlying96 Tryd.underlying3 (zero3 _) m _ D rfl h.map _ _ rfl hkey ?_; intro c hat hwc; obtain rfl := idx_of hat HA.out; rw [HH.out]; clear hat hwc)
  go_ret
  exact ⟨rfl, rfl⟩


set_option maxRecDepth 100000 in
set_option maxHeartbeats 400000 in
theorem lenDI_any {w : World} {B b m : Nat} {v : Value} {ks : List Int} {D : DataW Unit} (h : DictI w B b m v ks D) : Calls Tryd.prog 17 #[.pointer (some ⟨b, 0, none⟩)] w fun e w' => e = .returned (.int .i64 ((ks.length : Nat) : Int)) ∧ w' = w := by
  obtain ⟨A, cp, rfl⟩ := h.form
  have c1 := h.c1
  go_enter Tryd.func17, Tryd.ntmps17
  go_wp2
  go_ret
  exact ⟨rfl, rfl⟩

set_option maxRecDepth 100000 in
set_option maxHeartbeats 400000 in
theorem idDI_new {w : World} {B b m : Nat} {v : Value} {ks : List Int} {D : DataW Unit} (h : DictI w B b m v ks D) (k : Int) (hk : VI k) (hout : k ∉ ks) (hn : ks.length ≤ 100000) :
    Calls Tryd.prog 11 #[.pointer (some ⟨b, 0, none⟩), .int .i64 k] w fun e w' => e = .returned (.int .i64 ((ks.length : Nat) : Int)) ∧
      (∃ v', DictI w' B b m v' (ks ++ [k]) (D.put (litI k) (.lit (.int .i64 ((ks.length : Nat) : Int)))) ∧ (v'.ownBlock = v.ownBlock ∨ ∀ g, v'.ownBlock = some g → w.heap.size ≤ g)) ∧ Turn (SB b m v) w w' := by
  have c0 := h.c0
  have hkey := keyOf_int_mk Tryd.underlying3 hk
  obtain ⟨h1, _⟩ := h.ids.2 k hk
  have HH := Lib.hid (show Maps.has D (.int .i64 k) = false by rw [show (Lit.int .i64 k) = litI k from rfl, h1]; simp [hout])
  clear h1
  obtain ⟨A, cp, rfl⟩ := h.form
  have c1 := h.c1
  obtain ⟨n, HN⟩ := name_it ks.length
  have hmap := h.map
  have hrow := h.row
  have hblk := h.blk
  have hbm : b ≠ m := by
    rintro rfl
    obtain ⟨es, clock, hb, _⟩ := hmap
    rw [hblk] at hb
    cases hb
  have hbr : (Value.slice A ks.length cp).ownBlock ≠ some b := by
    intro e
    rcases hrow.2 with ⟨h0, _⟩ | ⟨g, cap, cur, h0, _, hg, _⟩
    · rw [h0] at e; cases e
    · rw [h0] at e
      injection e with e
      subst e
      rw [hblk] at hg
      injection hg with hg
      injection hg with _ hg
      exact absurd hg (by decide)
  have hmr : (Value.slice A ks.length cp).ownBlock ≠ some m := by
    intro e
    rcases hrow.2 with ⟨h0, _⟩ | ⟨g, cap, cur, h0, _, hg, _⟩
    · rw [h0] at e; cases e
    · rw [h0] at e
      injection e with e
      subst e
      obtain ⟨es, clock, hb, _⟩ := hmap
      rw [hb] at hg
      cases hg
  rw [HN.out] at hn hmap hrow hblk c1 hbr hmr ⊢
  go_enter Tryd.func11, Tryd.ntmps11
  have hlt : b < w.heap.size := by
    rcases Nat.lt_or_ge b w.heap.size with h' | h'
    · exact h'
    · rw [Array.getElem?_eq_none h'] at hblk; cases hblk
  have hlm := hmap.lt
  have hB : B ≤ w.heap.size := Nat.le_trans h.lob (Nat.le_of_lt hlt)
  have HMR := Lib.hid (show (Value.slice A n cp).ownBlock = none ∨ (Value.slice A n cp).ownBlock ≠ some m from .inr hmr)
  have HBR := Lib.hid (fun e : some b = (Value.slice A n cp).ownBlock => hbr e.symm)
  have HBM := Lib.hid (show some b ≠ some m from fun e => hbm (by injection e))
  have HROW := Lib.hid hrow
  have HBLK := Lib.hid hblk
  clear hbr hmr hbm hrow hblk
  go_wp2_with (first
    | (at_lookup; refine wpList_lookup_own_ok_int _ rfl _ _ 96 rfl 3 3 .i64 law3 Tryd.underlying96 Tryd.underlying3 (zero3 _) m _ D rfl hmap _ _ rfl hkey ?_; intro c hat hwc; rw [HH.out]; clear hat hwc)
    | (at_mapUpdate; refine wpList_mapUpdate_in _ rfl _ _ _ 96 rfl 3 3 law3 Tryd.underlying96 _ m n D rfl hmap (by unfold maxLen; omega) _ _ _ rfl rfl hkey _ [] (plainElem_int Tryd.underlying3 (WalkArith.wf_i64 (by omega))) ?_; intro w1 hown1 hturn1; have HG1 := Lib.hid hturn1.grown; have d1 : w1.cell? ⟨b, 1, none⟩ = some (.slice A n cp) := (World.cell?_of_block (HG1.out.block b hlt HBM.out)).trans c1; have HM1 := Lib.hid hown1; have hs1 : w.heap.size ≤ w1.heap.size := HG1.out.size; have HR1 := Lib.hid (HROW.out.kept HG1.out HMR.out); clear hown1 hturn1)
    | (at_builtin; refine app_new rfl _ _ 23 rfl B 3 (.int .i64 0) 1 8 Tryd.underlying23 infoInt3 rfl (by decide) _ _ _ rfl HR1.out (by omega) #[.int .i64 k] 1 1 rfl rfl (one_i64 _) (by omega) (by omega) (by decide) ?_; intro g4 cp4 w4 ho4 hg4 hl4; have HB4 := Lib.hid ((hg4.block b (by omega) HBR.out).trans ((HG1.out.block b hlt HBM.out).trans HBLK.out)); have d4 : w4.cell? ⟨b, 1, none⟩ = some (.slice A n cp) := Lib.cell_of_heap HB4.out 1; have f4 : w4.frozen? ⟨b, 1, none⟩ = false := Lib.frozen_of_heap HB4.out 1; have HO4 := Lib.hid ho4; have HG4 := Lib.hid (show w1.grownBy w4 (Value.slice A n cp).ownBlock from hg4); have HL4 := Lib.hid (show (Value.slice A n cp).ownBlock = some g4 ∨ w1.heap.size ≤ g4 from hl4); clear ho4 hg4 hl4))
  go_ret
  have hg14 := HG4.out.size
  refine ⟨rfl, ⟨.slice (some ⟨g4, 0, none⟩) (n + 1) cp4, ⟨?_, ?_, ?_, ?_, h.lob, h.lom⟩, ?_⟩, ?_⟩
  · exact heap_setCell_same w4 b 1 _ 98 _ HB4.out
  · rw [List.length_append, HN.out]
    exact (HM1.out.kept HG4.out (fun e => by rcases HMR.out with h0 | h0; rw [h0] at e; cases e; exact h0 e.symm)).setCell (fun e => HBM.out (by rw [e])) _
  · have := ids_put litI_inj litI_key h.ids hk hout
    rw [HN.out] at this
    exact this
  · rw [List.length_append, HN.out, List.map_append]
    refine ownsRow_setCell_other HO4.out (a := ⟨b, 1, none⟩) (fun e => ?_) _
    injection e with e
    have e : g4 = b := e
    rcases HL4.out with h0 | h0
    · exact HBR.out (by rw [← e]; exact h0.symm)
    · omega
  · rcases HL4.out with h0 | h0
    · exact .inl h0.symm
    · refine .inr fun g hg => ?_
      injection hg with hg
      have hg : g4 = g := hg
      omega
  · have h1 : Turn (SB b m (.slice A n cp)) w w1 := (Turn.of_grown HG1.out).mono (fun i _ hi => .inr (.inl (by injection hi)))
    have h2 : Turn (SB b m (.slice A n cp)) w1 w4 := (Turn.of_grown HG4.out).mono (fun i _ hi => .inr (.inr hi))
    exact (h1.trans h2).setCell (p := ⟨b, 1, none⟩) (.inr (.inl rfl)) _


theorem DictI.turn {S : Nat → Prop} {w w' : World} {B b m : Nat} {v : Value} {ks : List Int} {D : DataW Unit} (h : DictI w B b m v ks D) (ht : Turn S w w') (hb : ¬ S b) (hm : ¬ S m) (hv : ∀ g, v.ownBlock = some g → ¬ S g) : DictI w' B b m v ks D := by
  have hlt : b < w.heap.size := by
    rcases Nat.lt_or_ge b w.heap.size with h' | h'
    · exact h'
    · have := h.blk
      rw [Array.getElem?_eq_none h'] at this; cases this
  exact ⟨(ht.block b hlt hb).trans h.blk, ht.map h.map hm, h.ids, ht.owns h.row hv, h.lob, h.lom⟩
/-- All of its blocks lie from B on, and are there. -/
theorem DictI.lt {w : World} {B b m : Nat} {v : Value} {ks : List Int} {D : DataW Unit} (h : DictI w B b m v ks D) : b < w.heap.size ∧ m < w.heap.size ∧ ∀ g, v.ownBlock = some g → B ≤ g ∧ g < w.heap.size := by
  refine ⟨?_, h.map.lt, fun g hg => h.row.lt g hg⟩
  rcases Nat.lt_or_ge b w.heap.size with h' | h'
  · exact h'
  · have := h.blk
    rw [Array.getElem?_eq_none h'] at this; cases this
theorem SBI_ge {w : World} {B b m : Nat} {v : Value} {ks : List Int} {D : DataW Unit} (h : DictI w B b m v ks D) : ∀ i, SB b m v i → B ≤ i := by
  rintro i (rfl | rfl | hi)
  · exact h.lob
  · exact h.lom
  · exact (h.lt.2.2 i hi.symm).1
theorem DictI.below {w w' : World} {B B' b m : Nat} {v : Value} {ks : List Int} {D : DataW Unit} (h : DictI w B b m v ks D) (hb : Below B' w w') (h1 : b < B') (h2 : m < B') (h3 : ∀ g, v.ownBlock = some g → g < B') : DictI w' B b m v ks D :=
  h.turn (Turn.of_below hb) (by omega) (by omega) (fun g hg => by have := h3 g hg; omega)


set_option maxRecDepth 100000 in
set_option maxHeartbeats 400000 in
theorem keyDI_yes {w : World} {B b m : Nat} {v : Value} {ks : List Int} {D : DataW Unit} (h : DictI w B b m v ks D) (k : Nat) (hk : k < ks.length) (hn : ks.length ≤ 100000) :
    Calls Tryd.prog 15 #[.pointer (some ⟨b, 0, none⟩), .int .i64 k] w fun e w' => e = .returned (.tuple #[.int .i64 ks[k], .bool true]) ∧ w' = w := by
  have c1 := h.c1
  obtain ⟨g, cp, rfl, _, _⟩ := h.row.form (by omega)
  have hc : w.cell? ⟨g, k, none⟩ = some (.int .i64 ks[k]) := by
    rw [h.row.cellAt k (by omega), List.getElem?_map, List.getElem?_eq_getElem hk]
    rfl
  obtain ⟨n, HN⟩ := name_it ks.length
  obtain ⟨x, HX⟩ := name_it ks[k]
  rw [HX.out] at hc ⊢
  rw [HN.out] at hk hn c1
  have t1 : decide ((k : Int) < 0) = false := decide_eq_false (by omega)
  have t2 : decide ((n : Int) ≤ k) = false := decide_eq_false (by omega)
  have t3 : decide (n ≤ k) = false := decide_eq_false (by omega)
  have e1 : (0 : Int) ≤ k := by omega
  have e2 : (k : Int) < n := by omega
  go_enter Tryd.func15, Tryd.ntmps15
  go_wp2
  go_ret2
  exact ⟨rfl, rfl⟩


end Go.Proofs.YtdhnmgndekncpaaDoor
