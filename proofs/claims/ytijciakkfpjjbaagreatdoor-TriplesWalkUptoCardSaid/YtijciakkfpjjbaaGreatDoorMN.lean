/- What a script, a list of triples in memory read as: printed by gen_Y3.py. -/
import Derived.Test.YtijciakkfpjjbaaGreatDoorMK
import Derived.Test.YtijciakkfpjjbaaGreatDoorM3
import Derived.Test.YtijciakkfpjjbaaGreatDoorBulk
import Derived.Deep.Slices
import Derived.Lib.SmallJoins
namespace Go.Proofs.YtijciakkfpjjbaaGreatDoor
open Go Go.ChangeShapes Go.WideShapes Go.ChangeAt Go.RowKit Go.Joins

mutual
/-- Are a value's numbers whole numbers of 64 bits? -/
def i64V : Val → Prop
 | .mk _ _ n _ _ l => (-9223372036854775808 ≤ n ∧ n ≤ 9223372036854775807) ∧ i64L l
def i64L : List Val → Prop
 | [] => True
 | v :: r => i64V v ∧ i64L r
end
theorem cellAdd (a : Addr) (i j : Nat) : (a.add i).add j = a.add (i + j) := Go.Deep.add_add a i j

/-- A struct of six fields of one cell each. -/
theorem trod_six {H : Type} {enc : TypeId × Value → H} {P : Program} {w : World} {base : Nat} {spare : Nat → Bool} {held : Bool} {t : TypeId} {f0 f1 f2 f3 f4 f5 : Field} {fuel : Nat} {cs : List Value} {x : DataW H × List MemPlace} (ht : P.underlying t = some (.struct #[f0, f1, f2, f3, f4, f5])) (ce : P.cellsOf t = 6)
    (o0 : f0.offset = 0) (o1 : f1.offset = 1) (o2 : f2.offset = 2) (o3 : f3.offset = 3) (o4 : f4.offset = 4) (o5 : f5.offset = 5) (c0 : P.cellsOf f0.type = 1) (c1 : P.cellsOf f1.type = 1) (c2 : P.cellsOf f2.type = 1) (c3 : P.cellsOf f3.type = 1) (c4 : P.cellsOf f4.type = 1) (c5 : P.cellsOf f5.type = 1)
    (h : DataW.trod enc P w base spare held fuel t cs = some x) :
    ∃ (v0 v1 v2 v3 v4 v5 : Value) (y0 y1 y2 y3 y4 y5 : DataW H × List MemPlace) (k : Nat), cs = [v0, v1, v2, v3, v4, v5] ∧ x.1 = .agg [y0.1, y1.1, y2.1, y3.1, y4.1, y5.1] ∧ DataW.trod enc P w base spare held k f0.type [v0] = some y0 ∧ DataW.trod enc P w base spare held k f1.type [v1] = some y1 ∧ DataW.trod enc P w base spare held k f2.type [v2] = some y2 ∧ DataW.trod enc P w base spare held k f3.type [v3] = some y3 ∧ DataW.trod enc P w base spare held k f4.type [v4] = some y4 ∧ DataW.trod enc P w base spare held k f5.type [v5] = some y5 := by
 obtain ⟨xs, k, hk, hxy, hcl, hxl, hf⟩ := DataW.trod_struct ht h
 rw [ce] at hcl
 match xs, hxl, cs, hcl with
 | [y0, y1, y2, y3, y4, y5], _, [v0, v1, v2, v3, v4, v5], _ =>
  have g0 := hf 0 f0 rfl
  have g1 := hf 1 f1 rfl
  have g2 := hf 2 f2 rfl
  have g3 := hf 3 f3 rfl
  have g4 := hf 4 f4 rfl
  have g5 := hf 5 f5 rfl
  simp [o0, o1, o2, o3, o4, o5, c0, c1, c2, c3, c4, c5] at g0 g1 g2 g3 g4 g5
  exact ⟨v0, v1, v2, v3, v4, v5, y0, y1, y2, y3, y4, y5, k, rfl, by rw [hxy]; rfl, g0, g1, g2, g3, g4, g5⟩

set_option maxRecDepth 100000 in
/-- What six cells read as a value, where shorter slices of values read as lists. -/
theorem val_cells {H : Type} {enc : TypeId × Value → H} {W : World} {N : Nat} {held : Bool} {n : Nat} {cs : List Value} {d : DataW H} {p : List MemPlace}
    (ih : ∀ {fuel : Nat} {v : Value} {d : DataW H} {p : List MemPlace}, Rows.uptoBulk d ≤ N → DataW.trod enc Tryz.prog W 0 (fun _ => true) held fuel 32 [v] = some (d, p) →
     ∃ A n cap l, v = .slice A n cap ∧ n ≤ cap ∧ LRd W (fun g => g < W.heap.size) l A n ∧ i64L l ∧ sizeL l < Rows.uptoBulk d)
    (hN : Rows.uptoBulk d ≤ N + 1) (h : DataW.trod enc Tryz.prog W 0 (fun _ => true) held n 34 cs = some (d, p)) :
    ∃ x, cs.toArray.size = 6 ∧ VRd W (fun g => g < W.heap.size) x (.agg cs.toArray) ∧ i64V x ∧ sizeV x ≤ Rows.uptoBulk d := by
 obtain ⟨v0, v1, v2, v3, v4, v5, y0, y1, y2, y3, y4, y5, k, rfl, hxy, g0, g1, g2, g3, g4, g5⟩ := trod_six Tryz.underlying34 (by kernel_rfl) rfl rfl rfl rfl rfl rfl (by kernel_rfl) (by kernel_rfl) (by kernel_rfl) (by kernel_rfl) (by kernel_rfl) (by kernel_rfl) h
 obtain ⟨k0, e0, d0, w0⟩ := DataW.trod_int (by kernel_rfl : Tryz.prog.underlying 3 = some (.int .i64)) g0
 obtain ⟨k1, e1, d1⟩ := DataW.trod_bool (by kernel_rfl : Tryz.prog.underlying 4 = some .bool) g1
 obtain ⟨k2, e2, d2, w2⟩ := DataW.trod_int (by kernel_rfl : Tryz.prog.underlying 2 = some (.int .i64)) g2
 obtain ⟨k3, e3, d3, w3⟩ := DataW.trod_string (by kernel_rfl : Tryz.prog.underlying 9 = some .string) g3
 obtain ⟨k4, e4, d4, w4⟩ := DataW.trod_string (by kernel_rfl : Tryz.prog.underlying 9 = some .string) g4
 injection e0 with e0 _
 injection e1 with e1 _
 injection e2 with e2 _
 injection e3 with e3 _
 injection e4 with e4 _
 subst e0 e1 e2 e3 e4 d0 d1 d2 d3 d4
 obtain ⟨y5, p5⟩ := y5
 simp only at hxy
 subst hxy
 have hbulk : 6 + k3.size + k4.size + Rows.uptoBulk y5 ≤ Rows.uptoBulk (DataW.agg [.lit (.int .i64 k0), .lit (.bool k1), .lit (.int .i64 k2), .lit (.string k3.data.toList), .lit (.string k4.data.toList), y5]) := by
  have z3 : k3.data.toList.length = k3.size := by rw [Array.length_toList]; rfl
  have z4 : k4.data.toList.length = k4.size := by rw [Array.length_toList]; rfl
  simp only [Rows.uptoBulk, Rows.uptoBulkAll]
  omega
 obtain ⟨A, m, cap, l, e5, hcap, hl, h64, hsz⟩ := ih (by omega) g5
 subst e5
 have hm : m = l.length := hl.1
 subst hm
 have h2 : -9223372036854775808 ≤ k2 ∧ k2 ≤ 9223372036854775807 := by simpa [Lit.wf, IntKind.min, IntKind.max, IntKind.signed, IntKind.bits] using w2
 refine ⟨.mk k0 k1 k2 k3 k4 l, rfl, VRd.of_list (v := .mk k0 k1 k2 k3 k4 l) hcap hl, ⟨h2, h64⟩, ?_⟩
 simp only [sizeV]
 omega

set_option maxRecDepth 100000 in
/-- What a slice of values reads as. -/
theorem vals_open {H : Type} {enc : TypeId × Value → H} {W : World} {held : Bool} (N : Nat) : ∀ {fuel : Nat} {v : Value} {d : DataW H} {p : List MemPlace}, Rows.uptoBulk d ≤ N → DataW.trod enc Tryz.prog W 0 (fun _ => true) held fuel 32 [v] = some (d, p) →
      ∃ A n cap l, v = .slice A n cap ∧ n ≤ cap ∧ LRd W (fun g => g < W.heap.size) l A n ∧ i64L l ∧ sizeL l < Rows.uptoBulk d := by
 induction N with
 | zero => intro fuel v d p hN; have := bulks.one_le d; omega
 | succ N ih =>
  intro fuel v d p hN h
  rcases Go.Deep.open_slice Tryz.underlying32 h with ⟨h3, hd⟩ | ⟨a, len, cap, m, n, D, Pl, h3, _, hlc, hcm, hm, hd, hel⟩
  ·injection h3 with h3 _
   subst h3
   exact ⟨none, 0, 0, [], rfl, Nat.le_refl _, LRd.nil 0 rfl, trivial, by simp only [sizeL]; exact bulks.one_le d⟩
  ·injection h3 with h3 _
   subst h3
   have hml : len ≤ m := by rw [hm]; split <;> omega
   injection hd with hd _
   subst hd
   have hb := bulks.slice_elems ((List.range len).map D) ((List.range (m - len)).map fun j => D (len + j))
   have hDi : ∀ i, i < len → Rows.uptoBulk (D i) ≤ N := fun i hi => by
    have := bulks.part_le (List.mem_map.2 ⟨i, List.mem_range.2 hi, rfl⟩ : D i ∈ (List.range len).map D)
    omega
   have each : ∀ i, i < len → ∃ q : Val × Array Value, q.2.size = 6 ∧ (∀ j, j < 6 → W.cell? (a.add (i * 6 + j)) = q.2[j]?) ∧ VRd W (fun g => g < W.heap.size) q.1 (.agg q.2) ∧ i64V q.1 ∧ sizeV q.1 ≤ Rows.uptoBulk (D i) := fun i hi => by
    obtain ⟨cs', c1, c2⟩ := hel i (by omega)
    rw [show Tryz.prog.cellsOf 34 = 6 by kernel_rfl] at c1
    obtain ⟨_, hlen, hcell⟩ := World.cells?_some c1
    obtain ⟨x, x1, x2, x3, x4⟩ := val_cells (fun hN h => ih hN h) (Nat.le_succ_of_le (hDi i hi)) c2
    exact ⟨(x, cs'.toArray), x1, fun j hj => by rw [← cellAdd, hcell j hj]; simp, x2, x3, x4⟩
   have hex : ∃ q : Nat → Val × Array Value, ∀ i, i < len → (q i).2.size = 6 ∧ (∀ j, j < 6 → W.cell? (a.add (i * 6 + j)) = (q i).2[j]?) ∧ VRd W (fun g => g < W.heap.size) (q i).1 (.agg (q i).2) ∧ i64V (q i).1 ∧ sizeV (q i).1 ≤ Rows.uptoBulk (D i) := by
    classical
    exact ⟨fun i => if hi : i < len then Classical.choose (each i hi) else (.mk 0 false 0 ⟨#[]⟩ ⟨#[]⟩ [], #[]), fun i hi => by simp only [dif_pos hi]; exact Classical.choose_spec (each i hi)⟩
   obtain ⟨q, hq⟩ := hex
   refine ⟨some a, len, cap, (List.range len).map fun i => (q i).1, rfl, hlc, ⟨by simp, fun hn => ⟨a, rfl, ?_, fun i x hx => ?_⟩⟩, ?_, ?_⟩
   ·obtain ⟨cs', c1, _⟩ := hel 0 (by omega)
    rw [show Tryz.prog.cellsOf 34 = 6 by kernel_rfl] at c1
    obtain ⟨_, hlen, hcell⟩ := World.cells?_some c1
    have h0 := hcell 0 (by omega)
    rw [List.getElem?_eq_getElem (by omega)] at h0
    have := World.block_lt_of_cell? W _ h0
    simpa [Addr.add] using this
   ·rw [List.getElem?_map] at hx
    have hil : i < len := by
     rcases Nat.lt_or_ge i len with h' | h'
     ·exact h'
     ·rw [List.getElem?_eq_none (by simpa using h')] at hx; cases hx
    rw [List.getElem?_range hil] at hx
    injection hx with hx
    subst hx
    obtain ⟨q1, q2, q3, _⟩ := hq i hil
    exact ⟨_, q1, q2, q3⟩
   ·have : ∀ L : List Nat, (∀ i, i ∈ L → i < len) → i64L (L.map fun i => (q i).1) := fun L => by
      induction L with
      | nil => intro _; trivial
      | cons x r ihl => intro hL; exact ⟨(hq x (hL x (List.mem_cons_self ..))).2.2.2.1, ihl fun i hi => hL i (List.mem_cons_of_mem _ hi)⟩
    exact this _ fun i hi => List.mem_range.1 hi
   ·have : ∀ L : List Nat, (∀ i, i ∈ L → i < len) → sizeL (L.map fun i => (q i).1) ≤ Rows.uptoBulkAll (L.map D) := fun L => by
      induction L with
      | nil => intro _; simp [sizeL]
      | cons x r ihl =>
       intro hL
       have h1 := (hq x (hL x (List.mem_cons_self ..))).2.2.2.2
       have h2 := ihl fun i hi => hL i (List.mem_cons_of_mem _ hi)
       simp only [List.map_cons, sizeL, Rows.uptoBulkAll]
       omega
    have := this (List.range len) fun i hi => List.mem_range.1 hi
    omega

theorem trod_op {H : Type} {enc : TypeId × Value → H} {P : Program} {w : World} {base : Nat} {spare : Nat → Bool} {held : Bool} {t : TypeId} {f0 f1 : Field} {fuel : Nat} {cs : List Value} {x : DataW H × List MemPlace} (ht : P.underlying t = some (.struct #[f0, f1])) (ce : P.cellsOf t = 7)
    (o0 : f0.offset = 0) (o1 : f1.offset = 1) (c0 : P.cellsOf f0.type = 1) (c1 : P.cellsOf f1.type = 6)
    (h : DataW.trod enc P w base spare held fuel t cs = some x) :
    ∃ (v0 v1 v2 v3 v4 v5 v6 : Value) (y0 y1 : DataW H × List MemPlace) (k : Nat), cs = [v0, v1, v2, v3, v4, v5, v6] ∧ x.1 = .agg [y0.1, y1.1] ∧ DataW.trod enc P w base spare held k f0.type [v0] = some y0 ∧ DataW.trod enc P w base spare held k f1.type [v1, v2, v3, v4, v5, v6] = some y1 := by
 obtain ⟨xs, k, hk, hxy, hcl, hxl, hf⟩ := DataW.trod_struct ht h
 rw [ce] at hcl
 match xs, hxl, cs, hcl with
 | [y0, y1], _, [v0, v1, v2, v3, v4, v5, v6], _ =>
  have g0 := hf 0 f0 rfl
  have g1 := hf 1 f1 rfl
  simp [o0, o1, c0, c1] at g0 g1
  exact ⟨v0, v1, v2, v3, v4, v5, v6, y0, y1, k, rfl, by rw [hxy]; rfl, g0, g1⟩
theorem trod_tr {H : Type} {enc : TypeId × Value → H} {P : Program} {w : World} {base : Nat} {spare : Nat → Bool} {held : Bool} {t : TypeId} {f0 f1 f2 : Field} {fuel : Nat} {cs : List Value} {x : DataW H × List MemPlace} (ht : P.underlying t = some (.struct #[f0, f1, f2])) (ce : P.cellsOf t = 18)
    (o0 : f0.offset = 0) (o1 : f1.offset = 6) (o2 : f2.offset = 12) (c0 : P.cellsOf f0.type = 6) (c1 : P.cellsOf f1.type = 6) (c2 : P.cellsOf f2.type = 6)
    (h : DataW.trod enc P w base spare held fuel t cs = some x) :
    ∃ (v0 v1 v2 v3 v4 v5 v6 v7 v8 v9 v10 v11 v12 v13 v14 v15 v16 v17 : Value) (y0 y1 y2 : DataW H × List MemPlace) (k : Nat), cs = [v0, v1, v2, v3, v4, v5, v6, v7, v8, v9, v10, v11, v12, v13, v14, v15, v16, v17] ∧ x.1 = .agg [y0.1, y1.1, y2.1] ∧ DataW.trod enc P w base spare held k f0.type [v0, v1, v2, v3, v4, v5] = some y0 ∧ DataW.trod enc P w base spare held k f1.type [v6, v7, v8, v9, v10, v11] = some y1 ∧ DataW.trod enc P w base spare held k f2.type [v12, v13, v14, v15, v16, v17] = some y2 := by
 obtain ⟨xs, k, hk, hxy, hcl, hxl, hf⟩ := DataW.trod_struct ht h
 rw [ce] at hcl
 match xs, hxl, cs, hcl with
 | [y0, y1, y2], _, [v0, v1, v2, v3, v4, v5, v6, v7, v8, v9, v10, v11, v12, v13, v14, v15, v16, v17], _ =>
  have g0 := hf 0 f0 rfl
  have g1 := hf 1 f1 rfl
  have g2 := hf 2 f2 rfl
  simp [o0, o1, o2, c0, c1, c2] at g0 g1 g2
  exact ⟨v0, v1, v2, v3, v4, v5, v6, v7, v8, v9, v10, v11, v12, v13, v14, v15, v16, v17, y0, y1, y2, k, rfl, by rw [hxy]; rfl, g0, g1, g2⟩
theorem trod_four {H : Type} {enc : TypeId × Value → H} {P : Program} {w : World} {base : Nat} {spare : Nat → Bool} {held : Bool} {t : TypeId} {f0 f1 f2 f3 : Field} {fuel : Nat} {cs : List Value} {x : DataW H × List MemPlace} (ht : P.underlying t = some (.struct #[f0, f1, f2, f3])) (ce : P.cellsOf t = 4)
    (o0 : f0.offset = 0) (o1 : f1.offset = 1) (o2 : f2.offset = 2) (o3 : f3.offset = 3) (c0 : P.cellsOf f0.type = 1) (c1 : P.cellsOf f1.type = 1) (c2 : P.cellsOf f2.type = 1) (c3 : P.cellsOf f3.type = 1)
    (h : DataW.trod enc P w base spare held fuel t cs = some x) :
    ∃ (v0 v1 v2 v3 : Value) (y0 y1 y2 y3 : DataW H × List MemPlace) (k : Nat), cs = [v0, v1, v2, v3] ∧ x.1 = .agg [y0.1, y1.1, y2.1, y3.1] ∧ DataW.trod enc P w base spare held k f0.type [v0] = some y0 ∧ DataW.trod enc P w base spare held k f1.type [v1] = some y1 ∧ DataW.trod enc P w base spare held k f2.type [v2] = some y2 ∧ DataW.trod enc P w base spare held k f3.type [v3] = some y3 := by
 obtain ⟨xs, k, hk, hxy, hcl, hxl, hf⟩ := DataW.trod_struct ht h
 rw [ce] at hcl
 match xs, hxl, cs, hcl with
 | [y0, y1, y2, y3], _, [v0, v1, v2, v3], _ =>
  have g0 := hf 0 f0 rfl
  have g1 := hf 1 f1 rfl
  have g2 := hf 2 f2 rfl
  have g3 := hf 3 f3 rfl
  simp [o0, o1, o2, o3, c0, c1, c2, c3] at g0 g1 g2 g3
  exact ⟨v0, v1, v2, v3, y0, y1, y2, y3, k, rfl, by rw [hxy]; rfl, g0, g1, g2, g3⟩
def sumBy {α : Type} (f : α → Nat) (l : List α) : Nat := (l.map f).sum
set_option maxRecDepth 100000 in
/-- What a slice reads as, where its elements read. -/
theorem slice_of {α : Type} [Inhabited α] {H : Type} {enc : TypeId × Value → H} {W : World} {held : Bool} {R : Lies α} {sz N : Nat} {T E : TypeId} {Q : α → Prop} {wt : α → Nat} (hT : Tryz.prog.underlying T = some (.slice E)) (hE : Tryz.prog.cellsOf E = sz) (hsz : 0 < sz)
    (each : ∀ {fuel : Nat} {cs : List Value} {d : DataW H} {p : List MemPlace}, Rows.uptoBulk d ≤ N → DataW.trod enc Tryz.prog W 0 (fun _ => true) held fuel E cs = some (d, p) → ∃ x : α, cs.toArray.size = sz ∧ R W (fun g => g < W.heap.size) x cs.toArray ∧ Q x ∧ wt x ≤ Rows.uptoBulk d)
    {fuel : Nat} {v : Value} {d : DataW H} {p : List MemPlace} (hN : Rows.uptoBulk d ≤ N) (h : DataW.trod enc Tryz.prog W 0 (fun _ => true) held fuel T [v] = some (d, p)) :
    ∃ l : List α, SlR sz R W (fun g => g < W.heap.size) l v ∧ (∀ x, x ∈ l → Q x) ∧ sumBy wt l < Rows.uptoBulk d ∧ l.length < Rows.uptoBulk d := by
 rcases Go.Deep.open_slice hT h with ⟨h3, hd⟩ | ⟨a, len, cap, m, n, D, Pl, h3, _, hlc, hcm, hm, hd, hel⟩
 ·injection h3 with h3 _
  subst h3
  have h1 := bulks.one_le d
  exact ⟨[], SlR.nil .., fun x hx => (List.not_mem_nil hx).elim, by show 0 < _; omega, by show 0 < _; omega⟩
 ·injection h3 with h3 _
  subst h3
  have hml : len ≤ m := by rw [hm]; split <;> omega
  injection hd with hd _
  subst hd
  have hb := bulks.slice_elems ((List.range len).map D) ((List.range (m - len)).map fun j => D (len + j))
  have hb2 := bulks.slice_le ((List.range len).map D) ((List.range (m - len)).map fun j => D (len + j))
  have hDi : ∀ i, i < len → Rows.uptoBulk (D i) ≤ N := fun i hi => by
   have := bulks.part_le (List.mem_map.2 ⟨i, List.mem_range.2 hi, rfl⟩ : D i ∈ (List.range len).map D)
   omega
  have ev : ∀ i, i < len → ∃ q : α × Array Value, q.2.size = sz ∧ (∀ j, j < sz → W.cell? (a.add (i * sz + j)) = q.2[j]?) ∧ R W (fun g => g < W.heap.size) q.1 q.2 ∧ Q q.1 ∧ wt q.1 ≤ Rows.uptoBulk (D i) := fun i hi => by
   obtain ⟨cs', c1, c2⟩ := hel i (by omega)
   rw [hE] at c1
   obtain ⟨_, hlen, hcell⟩ := World.cells?_some c1
   obtain ⟨x, x1, x2, x3, x4⟩ := each (hDi i hi) c2
   exact ⟨(x, cs'.toArray), x1, fun j hj => by rw [← cellAdd, hcell j hj]; simp, x2, x3, x4⟩
  have hex : ∃ q : Nat → α × Array Value, ∀ i, i < len → (q i).2.size = sz ∧ (∀ j, j < sz → W.cell? (a.add (i * sz + j)) = (q i).2[j]?) ∧ R W (fun g => g < W.heap.size) (q i).1 (q i).2 ∧ Q (q i).1 ∧ wt (q i).1 ≤ Rows.uptoBulk (D i) := by
   classical
   exact ⟨fun i => if hi : i < len then Classical.choose (ev i hi) else (default, #[]), fun i hi => by simp only [dif_pos hi]; exact Classical.choose_spec (ev i hi)⟩
  obtain ⟨q, hq⟩ := hex
  have hll : ((List.range len).map fun i => (q i).1).length = len := by simp
  refine ⟨(List.range len).map fun i => (q i).1, ⟨some a, cap, by rw [hll], by rw [hll]; exact hlc, rfl, fun hn => ⟨a, rfl, ?_, fun i x hx => ?_⟩⟩, ?_, ?_, ?_⟩
  ·obtain ⟨cs', c1, _⟩ := hel 0 (by rw [hll] at hn; omega)
   rw [hE] at c1
   obtain ⟨_, hlen, hcell⟩ := World.cells?_some c1
   have h0 := hcell 0 hsz
   rw [List.getElem?_eq_getElem (by omega)] at h0
   have := World.block_lt_of_cell? W _ h0
   simpa [Addr.add] using this
  ·rw [List.getElem?_map] at hx
   have hil : i < len := by
    rcases Nat.lt_or_ge i len with h' | h'
    ·exact h'
    ·rw [List.getElem?_eq_none (by simpa using h')] at hx; cases hx
   rw [List.getElem?_range hil] at hx
   injection hx with hx
   subst hx
   obtain ⟨q1, q2, q3, _⟩ := hq i hil
   exact ⟨_, q1, q2, q3⟩
  ·intro x hx
   obtain ⟨i, hi, rfl⟩ := List.mem_map.1 hx
   exact (hq i (List.mem_range.1 hi)).2.2.2.1
  ·have : ∀ L : List Nat, (∀ i, i ∈ L → i < len) → sumBy wt (L.map fun i => (q i).1) ≤ Rows.uptoBulkAll (L.map D) := fun L => by
     induction L with
     | nil => intro _; simp [sumBy]
     | cons x r ihl =>
      intro hL
      have h1 := (hq x (hL x (List.mem_cons_self ..))).2.2.2.2
      have h2 := ihl fun i hi => hL i (List.mem_cons_of_mem _ hi)
      simp only [sumBy, List.map_cons, List.sum_cons, Rows.uptoBulkAll] at h2 ⊢
      omega
   have := this (List.range len) fun i hi => List.mem_range.1 hi
   omega
  ·rw [hll]
   have hh : ((List.range len).map D).length = len := by simp
   omega
instance : Inhabited Val := ⟨.mk 0 false 0 ⟨#[]⟩ ⟨#[]⟩ []⟩
instance : Inhabited Trip := ⟨⟨default, default, default⟩⟩
section
variable {H : Type} {enc : TypeId × Value → H} {W : World} {held : Bool} {fuel : Nat} {d : DataW H} {p : List MemPlace}
theorem val_of_cells {cs : List Value} (hN : Rows.uptoBulk d ≤ 1048576) (h : DataW.trod enc Tryz.prog W 0 (fun _ => true) held fuel 34 cs = some (d, p)) :
    ∃ x : Val, OkV x ∧ ∃ s, cs.toArray = cellsV x s ∧ VRd W (fun g => g < W.heap.size) x (.agg (cellsV x s)) := by
 obtain ⟨x, x1, x2, x3, x4⟩ := val_cells (N := 1048576) (fun hN h => vals_open 1048576 hN h) (by omega) h
 obtain ⟨A, cap, hu, _, _⟩ := x2.inv
 injection hu with hu
 have hi : -9223372036854775808 ≤ x.num ∧ x.num ≤ 9223372036854775807 := by
  cases x with
  | mk k b n t y l =>
   simp only [i64V] at x3
   exact x3.1
 exact ⟨x, ⟨by omega, hi.1, hi.2⟩, _, hu, by rw [← hu]; exact x2⟩
set_option maxRecDepth 100000 in
theorem tr_el {cs : List Value} (hN : Rows.uptoBulk d ≤ 1048576) (h : DataW.trod enc Tryz.prog W 0 (fun _ => true) held fuel 41 cs = some (d, p)) :
    ∃ x : Trip, cs.toArray.size = 18 ∧ TrR W (fun g => g < W.heap.size) x cs.toArray ∧ OkT x ∧ (fun _ : Trip => 0) x ≤ Rows.uptoBulk d := by
 obtain ⟨v0, v1, v2, v3, v4, v5, v6, v7, v8, v9, v10, v11, v12, v13, v14, v15, v16, v17, y0, y1, y2, k, rfl, hxy, g0, g1, g2⟩ := trod_tr Tryz.underlying41 (by kernel_rfl) rfl rfl rfl (by kernel_rfl) (by kernel_rfl) (by kernel_rfl) h
 obtain ⟨y0, p0⟩ := y0
 obtain ⟨y1, p1⟩ := y1
 obtain ⟨y2, p2⟩ := y2
 simp only at hxy
 subst hxy
 have hb : Rows.uptoBulk y0 + Rows.uptoBulk y1 + Rows.uptoBulk y2 ≤ Rows.uptoBulk (DataW.agg [y0, y1, y2]) := by
  simp only [Rows.uptoBulk, Rows.uptoBulkAll]
  omega
 obtain ⟨x, o0, s0, e0, r0⟩ := val_of_cells (by omega) g0
 obtain ⟨y, o1, s1, e1, r1⟩ := val_of_cells (by omega) g1
 obtain ⟨z, o2, s2, e2, r2⟩ := val_of_cells (by omega) g2
 refine ⟨⟨x, y, z⟩, rfl, ⟨fun i => if i = 0 then s0 else if i = 1 then s1 else s2, ?_, fun i hi => ?_⟩, ⟨o0, o1, o2⟩, Nat.zero_le _⟩
 ·show _ = cellsV x s0 ++ cellsV y s1 ++ cellsV z s2
  rw [← e0, ← e1, ← e2]
  rfl
 ·rcases (show i = 0 ∨ i = 1 ∨ i = 2 by omega) with rfl | rfl | rfl
  ·exact r0
  ·exact r1
  ·exact r2
set_option maxRecDepth 100000 in
theorem pat_el {cs : List Value} (hN : Rows.uptoBulk d ≤ 1048576) (h : DataW.trod enc Tryz.prog W 0 (fun _ => true) held fuel 64 cs = some (d, p)) :
    ∃ x : Trip, cs.toArray.size = 18 ∧ TrR W (fun g => g < W.heap.size) x cs.toArray ∧ OkT x ∧ (fun _ : Trip => 0) x ≤ Rows.uptoBulk d := by
 obtain ⟨v0, v1, v2, v3, v4, v5, v6, v7, v8, v9, v10, v11, v12, v13, v14, v15, v16, v17, y0, y1, y2, k, rfl, hxy, g0, g1, g2⟩ := trod_tr Tryz.underlying64 (by kernel_rfl) rfl rfl rfl (by kernel_rfl) (by kernel_rfl) (by kernel_rfl) h
 obtain ⟨y0, p0⟩ := y0
 obtain ⟨y1, p1⟩ := y1
 obtain ⟨y2, p2⟩ := y2
 simp only at hxy
 subst hxy
 have hb : Rows.uptoBulk y0 + Rows.uptoBulk y1 + Rows.uptoBulk y2 ≤ Rows.uptoBulk (DataW.agg [y0, y1, y2]) := by
  simp only [Rows.uptoBulk, Rows.uptoBulkAll]
  omega
 obtain ⟨x, o0, s0, e0, r0⟩ := val_of_cells (by omega) g0
 obtain ⟨y, o1, s1, e1, r1⟩ := val_of_cells (by omega) g1
 obtain ⟨z, o2, s2, e2, r2⟩ := val_of_cells (by omega) g2
 refine ⟨⟨x, y, z⟩, rfl, ⟨fun i => if i = 0 then s0 else if i = 1 then s1 else s2, ?_, fun i hi => ?_⟩, ⟨o0, o1, o2⟩, Nat.zero_le _⟩
 ·show _ = cellsV x s0 ++ cellsV y s1 ++ cellsV z s2
  rw [← e0, ← e1, ← e2]
  rfl
 ·rcases (show i = 0 ∨ i = 1 ∨ i = 2 by omega) with rfl | rfl | rfl
  ·exact r0
  ·exact r1
  ·exact r2
set_option maxRecDepth 100000 in
theorem op_el {cs : List Value} (hN : Rows.uptoBulk d ≤ 1048576) (h : DataW.trod enc Tryz.prog W 0 (fun _ => true) held fuel 57 cs = some (d, p)) :
    ∃ x : Int × Val, cs.toArray.size = 7 ∧ OpR W (fun g => g < W.heap.size) x cs.toArray ∧ OkV x.2 ∧ (fun _ : Int × Val => 0) x ≤ Rows.uptoBulk d := by
 obtain ⟨v0, v1, v2, v3, v4, v5, v6, y0, y1, k, rfl, hxy, g0, g1⟩ := trod_op Tryz.underlying57 (by kernel_rfl) rfl rfl (by kernel_rfl) (by kernel_rfl) h
 obtain ⟨i0, e0, d0, _⟩ := DataW.trod_int (by kernel_rfl : Tryz.prog.underlying 3 = some (.int .i64)) g0
 injection e0 with e0 _
 subst e0 d0
 obtain ⟨y1, p1⟩ := y1
 simp only at hxy
 subst hxy
 have hb : Rows.uptoBulk y1 ≤ Rows.uptoBulk (DataW.agg [.lit (.int .i64 i0), y1]) := by
  simp only [Rows.uptoBulk, Rows.uptoBulkAll]
  omega
 obtain ⟨x, o1, s1, e1, r1⟩ := val_of_cells (by omega) g1
 refine ⟨(i0, x), rfl, ⟨s1, ?_, r1⟩, o1, Nat.zero_le _⟩
 show _ = #[.int .i64 i0] ++ cellsV x s1
 rw [← e1]
 rfl
theorem triples_of {v : Value} (hN : Rows.uptoBulk d ≤ 1048576) (h : DataW.trod enc Tryz.prog W 0 (fun _ => true) held fuel 22 [v] = some (d, p)) :
    ∃ l : List Trip, SlR 18 TrR W (fun g => g < W.heap.size) l v ∧ (∀ x, x ∈ l → OkT x) ∧ sumBy (fun _ => 0) l < Rows.uptoBulk d ∧ l.length < Rows.uptoBulk d :=
 slice_of (Q := OkT) Tryz.underlying22 (by kernel_rfl) (by decide) (fun hN h => tr_el hN h) hN h
end
set_option maxRecDepth 100000 in
/-- What a list of triples reads as. -/
theorem triples_open {H : Type} {enc : TypeId × Value → H} {W : World} {base : Nat} {v : Value} {d : DataW H} {p : List MemPlace} (hk : Rows.uptoBulk d ≤ 1048576) (hv : Value.okWide Tryz.prog W .any base 22 v)
    (h : DataW.Trod enc Tryz.prog W 0 (fun _ => true) true 22 v d p) :
    ∃ (A : Option Addr) (n c : Nat) (L : List Trip), v = .slice A n c ∧ (∀ t, t ∈ L → OkT t) ∧ SRd 18 TrR W (fun b => b < W.heap.size) L A n ∧ n ≤ 100000000 := by
 obtain ⟨a, n, cp, rfl⟩ := okWide_slice Tryz.underlying22 hv
 obtain ⟨fuel, hf⟩ := h
 obtain ⟨L, ⟨A, c, e, _, l1⟩, l2, _, l4⟩ := triples_of hk hf
 rw [e]
 exact ⟨A, L.length, c, L, rfl, l2, l1, by omega⟩
set_option maxRecDepth 100000 in
/-- What a script reads as. -/
theorem script_open {H : Type} {enc : TypeId × Value → H} {W : World} {base : Nat} {v : Value} {d : DataW H} {p : List MemPlace} (hk : Rows.uptoBulk d ≤ 1048576) (hv : Value.okWide Tryz.prog W .any base 49 v)
    (h : DataW.Trod enc Tryz.prog W 0 (fun _ => true) true 49 v d p) :
    ∃ (A1 A2 A3 : Option Addr) (nL c1 nP c2 nD c3 : Nat) (ord : ByteArray) (L P : List Trip) (D : List (Int × Val)), v = .agg #[.slice A1 nL c1, .slice A2 nP c2, .string ord, .slice A3 nD c3] ∧ (∀ t, t ∈ L → OkT t) ∧ (∀ t, t ∈ P → OkT t) ∧ (∀ o, o ∈ D → OkV o.2) ∧
     SRd 18 TrR W (fun b => b < W.heap.size) L A1 nL ∧ SRd 18 TrR W (fun b => b < W.heap.size) P A2 nP ∧ SRd 7 OpR W (fun b => b < W.heap.size) D A3 nD ∧ nL ≤ 100000000 ∧ nP ≤ 100000000 ∧ nD ≤ 100000000 ∧ ord.size ≤ 2000000 := by
 obtain ⟨cs, rfl, hsz⟩ := okWide_struct Tryz.underlying49 hv
 obtain ⟨fuel, hf⟩ := h
 obtain ⟨v0, v1, v2, v3, y0, y1, y2, y3, k, hcs, hxy, g0, g1, g2, g3⟩ := trod_four Tryz.underlying49 (by kernel_rfl) rfl rfl rfl rfl (by kernel_rfl) (by kernel_rfl) (by kernel_rfl) (by kernel_rfl) hf
 obtain ⟨y0, p0⟩ := y0
 obtain ⟨y1, p1⟩ := y1
 obtain ⟨y3, p3⟩ := y3
 obtain ⟨s, e2, d2, _⟩ := DataW.trod_string (by kernel_rfl : Tryz.prog.underlying 9 = some .string) g2
 injection e2 with e2 _
 subst e2 d2
 simp only at hxy
 subst hxy
 have hss : s.data.toList.length = s.size := by rw [Array.length_toList]; rfl
 simp only [Rows.uptoBulk, Rows.uptoBulkAll] at hk
 obtain ⟨L, ⟨A1, c1, rfl, _, l1⟩, l2, _, l4⟩ := triples_of (by omega) g0
 obtain ⟨P, ⟨A2, c2, rfl, _, m1⟩, m2, _, m4⟩ := slice_of (Q := OkT) (wt := fun _ => 0) (R := TrR) (N := 1048576) Tryz.underlying46 (by kernel_rfl) (by decide) (fun hN h => pat_el hN h) (by omega) g1
 obtain ⟨D, ⟨A3, c3, rfl, _, n1⟩, n2, _, n4⟩ := slice_of (Q := fun o : Int × Val => OkV o.2) (wt := fun _ => 0) (R := OpR) (N := 1048576) Tryz.underlying47 (by kernel_rfl) (by decide) (fun hN h => op_el hN h) (by omega) g3
 have hcs2 : cs.toList = [.slice A1 L.length c1, .slice A2 P.length c2, .string s, .slice A3 D.length c3] := hcs
 have hcs3 : cs = #[.slice A1 L.length c1, .slice A2 P.length c2, .string s, .slice A3 D.length c3] := by
  rw [← Array.toList_inj, hcs2]
 subst hcs3
 exact ⟨A1, A2, A3, L.length, c1, P.length, c2, D.length, c3, s, L, P, D, rfl, l2, m2, n2, l1, m1, n1, by omega, by omega, by omega, by omega⟩
end Go.Proofs.YtijciakkfpjjbaaGreatDoor
