/- A column of pairs: made, put, put as null; its length, its nulls; a cell. -/
import Derived.Test.YtdhnmgndekncpaaDoorP0
import Derived.BigRegion
namespace Go.Proofs.YtdhnmgndekncpaaDoor
open Go Go.RowKit Go.Maps Go.WideMaps

set_option maxRecDepth 100000 in
set_option maxHeartbeats 400000 in
theorem newP_any (w : World) : Calls Tryd.prog 33 #[] w (NewIs 117 68 2 w) := by
  go_enter Tryd.func33, Tryd.ntmps33
  go_wp2
  go_ret
  refine ⟨rfl, ⟨heap_alloc_new w _, World.ownsRow_nil _ _ _ _, World.ownsRow_nil _ _ _ _, bits_nil, Nat.le_refl _⟩, (Below.refl w.heap.size w).alloc (Nat.le_refl _) _, by simp⟩

set_option maxRecDepth 100000 in
set_option maxHeartbeats 400000 in
theorem lenP_any {w : World} {B c nl : Nat} {v u : Value} {n : Nat} {vs : List Value} {bs : List Nat} {fs : List Bool} (h : Col 117 68 2 w B c v u n vs bs fs nl) : Calls Tryd.prog 39 #[.pointer (some ⟨c, 0, none⟩)] w fun e w' => e = .returned (.int .i64 (n : Int)) ∧ w' = w := by
  have c0 : w.cell? ⟨c, 0, none⟩ = some v := Lib.cell_of_heap h.blk 0
  obtain ⟨A, cp, rfl⟩ := slice_form h.vals
  go_enter Tryd.func39, Tryd.ntmps39
  go_wp2
  go_ret
  exact ⟨rfl, rfl⟩

set_option maxRecDepth 100000 in
set_option maxHeartbeats 400000 in
theorem nullsP_any {w : World} {B c nl : Nat} {v u : Value} {n : Nat} {vs : List Value} {bs : List Nat} {fs : List Bool} (h : Col 117 68 2 w B c v u n vs bs fs nl) : Calls Tryd.prog 40 #[.pointer (some ⟨c, 0, none⟩)] w fun e w' => e = .returned (.int .i64 (nl : Int)) ∧ w' = w := by
  have c2 : w.cell? ⟨c, 2, none⟩ = some (.int .i64 nl) := Lib.cell_of_heap h.blk 2
  go_enter Tryd.func40, Tryd.ntmps40
  go_wp2
  go_ret
  exact ⟨rfl, rfl⟩

theorem Fresh.of_alloc {w : World} {o : Obj} {v v' : Value} (h : Fresh (w.alloc o) v v') : Fresh w v v' := h.imp id (fun h g hg => by have := h g hg; simp at this; omega)

set_option maxRecDepth 100000 in
set_option maxHeartbeats 400000 in
theorem putP_any {w : World} {B c nl : Nat} {v u : Value} {n : Nat} {vs : List Value} {bs : List Nat} {fs : List Bool} (h : Col 117 68 2 w B c v u n vs bs fs nl) (hl : fs.length = n) (hx : n < 4398046511104) (hnl : nl ≤ n) (x : Int) (y : ByteArray) :
    Calls Tryd.prog 37 #[.pointer (some ⟨c, 0, none⟩), .agg #[.int .i64 x, .string y]] w (PutIs 117 68 2 B c v u n (vs ++ [.int .i64 x, .string y]) (fs ++ [false]) nl w) := by
  have h1 := h.below ((Below.refl w.heap.size w).alloc (Nat.le_refl _) (.cells #[.int .i64 x, .string y] 68)) (Nat.le_refl _)
  have HC := Lib.hid (putP0_any h1 hl hx hnl x y false)
  clear h1 hl h
  go_enter Tryd.func37, Tryd.ntmps37
  go_wp2_with fail
  refine HC.out.mono ?_
  rintro e w' ⟨rfl, ⟨v', u', bs', hc, hv, hu⟩, ht⟩
  have HCC := Lib.hid hc
  have HV := Lib.hid hv
  have HU := Lib.hid hu
  have HT := Lib.hid ht
  clear hc hv hu ht
  go_wp2
  go_end0
  exact ⟨rfl, ⟨v', u', bs', HCC.out, HV.out.of_alloc, HU.out.of_alloc⟩, ((Turn.refl _ w).alloc _).trans HT.out⟩

set_option maxRecDepth 100000 in
set_option maxHeartbeats 400000 in
theorem nullP_any {w : World} {B c nl : Nat} {v u : Value} {n : Nat} {vs : List Value} {bs : List Nat} {fs : List Bool} (h : Col 117 68 2 w B c v u n vs bs fs nl) (hl : fs.length = n) (hx : n < 4398046511104) (hnl : nl ≤ n) :
    Calls Tryd.prog 35 #[.pointer (some ⟨c, 0, none⟩)] w (PutIs 117 68 2 B c v u n (vs ++ [.int .i64 0, .string ⟨#[]⟩]) (fs ++ [true]) (nl + 1) w) := by
  have h1 := h.below ((Below.refl w.heap.size w).alloc (Nat.le_refl _) (.cells #[.int .i64 0, .string ⟨#[]⟩] 68)) (Nat.le_refl _)
  have HC := Lib.hid (putP0_any h1 hl hx hnl 0 ⟨#[]⟩ true)
  clear h1 hl h
  go_enter Tryd.func35, Tryd.ntmps35
  go_wp2_with fail
  refine HC.out.mono ?_
  rintro e w' ⟨rfl, ⟨v', u', bs', hc, hv, hu⟩, ht⟩
  have HCC := Lib.hid hc
  have HV := Lib.hid hv
  have HU := Lib.hid hu
  have HT := Lib.hid ht
  clear hc hv hu ht
  go_wp2
  go_end0
  exact ⟨rfl, ⟨v', u', bs', HCC.out, HV.out.of_alloc, HU.out.of_alloc⟩, ((Turn.refl _ w).alloc _).trans HT.out⟩

/-- Three results; memory that was there as it was. -/
def Told3B (a b c : Value) (w : World) (e : Ending) (w' : World) : Prop := e = .returned (.tuple #[a, b, c]) ∧ Below w.heap.size w w'

set_option maxRecDepth 100000 in
set_option maxHeartbeats 400000 in
theorem atP_yes {w : World} {B c nl : Nat} {v u : Value} {n : Nat} {vs : List Value} {bs : List Nat} {fs : List Bool} (h : Col 117 68 2 w B c v u n vs bs fs nl) (hl : fs.length = n) (hx : n < 4398046511104) (i : Nat) (hi : i < n) (x : Int) (y : ByteArray) (hxi : vs[i * 2]? = some (.int .i64 x)) (hyi : vs[i * 2 + 1]? = some (.string y)) (f : Bool) (hf : fs[i]? = some f) :
    Calls Tryd.prog 42 #[.pointer (some ⟨c, 0, none⟩), .int .i64 i] w (Told3B (.agg #[.int .i64 x, .string y]) (.bool (!f)) (.int .i64 0) w) := by
  obtain ⟨g, cp, rfl, _, hgl⟩ := h.vals.form (by omega)
  obtain ⟨b, hb, hb64, hbit⟩ := bits_at h.isb (i := i) (by omega)
  have hql : i / 64 < bs.length := by rw [h.isb.1]; omega
  obtain ⟨g2, cp2, rfl, _, hgl2⟩ := h.bits.form (by omega)
  have hcl := blk_lt h.blk
  have c0 : w.cell? ⟨c, 0, none⟩ = some (.slice (some ⟨g, 0, none⟩) n cp) := Lib.cell_of_heap h.blk 0
  have c1 : w.cell? ⟨c, 1, none⟩ = some (.slice (some ⟨g2, 0, none⟩) bs.length cp2) := Lib.cell_of_heap h.blk 1
  have d0 : w.cell? ⟨g, i * 2, none⟩ = some (.int .i64 x) := by rw [h.vals.cellAt (i * 2) (by omega), hxi]
  have d2 : w.cell? ⟨g, i * 2 + 1, none⟩ = some (.string y) := by rw [h.vals.cellAt (i * 2 + 1) (by omega), hyi]
  obtain ⟨q, HQ⟩ := name_it (i / 64)
  obtain ⟨r, HR⟩ := name_it (i % 64)
  have d1 : w.cell? ⟨g2, q, none⟩ = some (.int .u64 b) := by rw [h.bits.cellAt q (by rw [← HQ.out]; omega), List.getElem?_map, ← HQ.out, hb]; rfl
  have e1 : (0 : Int) ≤ i := by omega
  have e2 : (i : Int) < n := by omega
  have hq : (i : Int).tdiv 64 = (q : Int) := by rw [← HQ.out, Int.tdiv_eq_ediv_of_nonneg (by omega)]; omega
  have hr : (i : Int).tmod 64 = (r : Int) := by rw [← HR.out, Int.tmod_eq_emod_of_nonneg (by omega)]; omega
  have hq2 : (i : Int) / 64 = (q : Int) := by rw [← HQ.out]; omega
  have hr2 : (i : Int) % 64 = (r : Int) := by rw [← HR.out]; omega
  have hqw : IntKind.i64.wrap (q : Int) = (q : Int) := IntWalk.i64_in _ (by omega)
  have hrw : IntKind.i64.wrap (r : Int) = (r : Int) := IntWalk.i64_in _ (by omega)
  have e3 : (0 : Int) ≤ q := by omega
  have e4 : (q : Int) < bs.length := by omega
  have e5 : (0 : Int) ≤ r := by omega
  have e6 : (r : Int) < 64 := by omega
  have hn0 : decide ((i : Int) < 0) = false := decide_eq_false (by omega)
  have hn1 : decide ((n : Int) ≤ i) = false := decide_eq_false (by omega)
  have hbb : (bits BinOp.and IntKind.u64 ((b : Int) / 2 ^ r) 1 == 0) = !f := by
    have h1 : (b : Int) / 2 ^ r = ((b / 2 ^ r : Nat) : Int) := by push_cast; rfl
    have h2 : b / 2 ^ r ≤ b := Nat.div_le_self _ _
    rw [h1, and_one_u64 _ (Int.natCast_nonneg _) (by have := Int.ofNat_le.2 h2; omega)]
    have h3 := bit_of b r
    rw [HR.out, List.getD_eq_getElem?_getD, hf] at hbit
    have h4 : b.testBit r = f := hbit
    rw [h4] at h3
    have h5 : ((b / 2 ^ r : Nat) : Int) % 2 = ((b / 2 ^ r % 2 : Nat) : Int) := by push_cast; rfl
    rw [h5, h3]
    cases f <;> rfl
  have e7 : decide (n ≤ i) = false := decide_eq_false (by omega)
  have HWW := Lib.hid ((Below.refl w.heap.size w).alloc (Nat.le_refl _) (.cells #[.int .i64 0, .string ⟨#[]⟩] 68))
  have hz := heap_alloc_new w (.cells #[.int .i64 0, .string ⟨#[]⟩] 68)
  clear h hl hxi hyi hf hb hbit
  go_enter Tryd.func42, Tryd.ntmps42
  go_upto_region 1 with fail
  obtain ⟨W, HW⟩ := name_it (w.alloc (.cells #[.int .i64 0, .string ⟨#[]⟩] 68))
  obtain ⟨z, HZ⟩ := name_it w.heap.size
  rw [HW.out] at HWW hz ⊢
  rw [HZ.out] at HWW hz hcl hgl hgl2 ⊢
  have c0' : W.cell? ⟨c, 0, none⟩ = _ := (HWW.out.cell (p := ⟨c, 0, none⟩) hcl).trans c0
  have c1' : W.cell? ⟨c, 1, none⟩ = _ := (HWW.out.cell (p := ⟨c, 1, none⟩) hcl).trans c1
  have d0' : W.cell? ⟨g, i * 2, none⟩ = _ := (HWW.out.cell (p := ⟨g, i * 2, none⟩) hgl).trans d0
  have d1' : W.cell? ⟨g2, q, none⟩ = _ := (HWW.out.cell (p := ⟨g2, q, none⟩) hgl2).trans d1
  have d2' : W.cell? ⟨g, i * 2 + 1, none⟩ = _ := (HWW.out.cell (p := ⟨g, i * 2 + 1, none⟩) hgl).trans d2
  have z0 : W.cell? ⟨z, 0, none⟩ = some (.int .i64 0) := Lib.cell_of_heap hz 0
  have z1 : W.cell? ⟨z, 1, none⟩ = some (.string ⟨#[]⟩) := Lib.cell_of_heap hz 1
  have y0 : W.frozen? ⟨z, 0, none⟩ = false := Lib.frozen_of_heap hz 0
  have y1 : W.frozen? ⟨z, 1, none⟩ = false := Lib.frozen_of_heap hz 1
  have HZZ := Lib.hid hz
  clear c0 c1 d0 d1 d2 hz
  go_wp2_with fail
  go_region
  have hz9 : ((W.setCell ⟨z, 0, none⟩ (.int .i64 x)).setCell ⟨z, 1, none⟩ (.string y)).drew.heap[z]? = some (.cells #[.int .i64 x, .string y] 68 (0, 0)) :=
    heap_setCell_same _ z 1 _ 68 _ (heap_setCell_same W z 0 _ 68 _ HZZ.out)
  have hb9 : Below z w ((W.setCell ⟨z, 0, none⟩ (.int .i64 x)).setCell ⟨z, 1, none⟩ (.string y)).drew :=
    ((HWW.out.setCell (p := ⟨z, 0, none⟩) (Nat.le_refl _) _).setCell (p := ⟨z, 1, none⟩) (Nat.le_refl _) _).drew
  obtain ⟨W9, HW9⟩ := name_it ((W.setCell ⟨z, 0, none⟩ (.int .i64 x)).setCell ⟨z, 1, none⟩ (.string y)).drew
  rw [HW9.out] at hz9 hb9 ⊢
  have r0 : W9.cell? ⟨z, 0, none⟩ = some (.int .i64 x) := Lib.cell_of_heap hz9 0
  have r1 : W9.cell? ⟨z, 1, none⟩ = some (.string y) := Lib.cell_of_heap hz9 1
  go_wp2_with fail
  exact bodyPost_ret (v := .tuple #[.agg #[.int .i64 x, .string y], .bool (!f), .int .i64 0]) (by simp [results, Tryd.results42, go_sem, r0, r1]) rfl ⟨rfl, by rw [HZ.out]; exact hb9⟩

set_option maxRecDepth 100000 in
set_option maxHeartbeats 400000 in
theorem atP_no {w : World} {B c nl : Nat} {v u : Value} {n : Nat} {vs : List Value} {bs : List Nat} {fs : List Bool} (h : Col 117 68 2 w B c v u n vs bs fs nl) (i : Int) (hi : i < 0 ∨ (n : Int) ≤ i) :
    Calls Tryd.prog 42 #[.pointer (some ⟨c, 0, none⟩), .int .i64 i] w (Told3B (.agg #[.int .i64 0, .string ⟨#[]⟩]) (.bool false) (.int .i64 1) w) := by
  have hcl := blk_lt h.blk
  have c0 : w.cell? ⟨c, 0, none⟩ = some v := Lib.cell_of_heap h.blk 0
  obtain ⟨A, cp, rfl⟩ := slice_form h.vals
  have HB := Lib.hid ((Below.refl w.heap.size w).alloc (Nat.le_refl _) (.cells #[.int .i64 0, .string ⟨#[]⟩] 68))
  by_cases h0 : i < 0
  · go_enter Tryd.func42, Tryd.ntmps42
    go_wp2
    exact bodyPost_ret (v := .tuple #[.agg #[.int .i64 0, .string ⟨#[]⟩], .bool false, .int .i64 1]) (by simp [results, Tryd.results42, go_sem]) rfl ⟨rfl, HB.out⟩
  · have h1 : (n : Int) ≤ i := by omega
    have h2 : 0 ≤ i := by omega
    go_enter Tryd.func42, Tryd.ntmps42
    go_wp2
    exact bodyPost_ret (v := .tuple #[.agg #[.int .i64 0, .string ⟨#[]⟩], .bool false, .int .i64 1]) (by simp [results, Tryd.results42, go_sem]) rfl ⟨rfl, HB.out⟩
end Go.Proofs.YtdhnmgndekncpaaDoor
