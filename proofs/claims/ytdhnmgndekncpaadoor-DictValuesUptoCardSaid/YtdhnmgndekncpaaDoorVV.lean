/- What a slice of values reads as. -/
import Derived.Test.YtdhnmgndekncpaaDoorVQ
import Derived.Test.YtdhnmgndekncpaaDoorVG
import Derived.Test.YtdhnmgndekncpaaDoorQ0
import Derived.Test.YtdhnmgndekncpaaDoorBulk
import Derived.Deep.Slices
namespace Go.Proofs.YtdhnmgndekncpaaDoor
open Go Go.ChangeShapes Go.WideShapes Go.ChangeAt Go.RowKit Go.Joins

theorem cellAdd (a : Addr) (i j : Nat) : (a.add i).add j = a.add (i + j) := Go.Deep.add_add a i j

/-- A struct of six fields of one cell each. -/
theorem trod_six {H : Type} {enc : TypeId × Value → H} {P : Program} {w : World} {base : Nat} {spare : Nat → Bool} {held : Bool} {t : TypeId} {f0 f1 f2 f3 f4 f5 : Field} {fuel : Nat} {cs : List Value} {x : DataW H × List MemPlace} (ht : P.underlying t = some (.struct #[f0, f1, f2, f3, f4, f5])) (ce : P.cellsOf t = 6)
    (o0 : f0.offset = 0) (o1 : f1.offset = 1) (o2 : f2.offset = 2) (o3 : f3.offset = 3) (o4 : f4.offset = 4) (o5 : f5.offset = 5) (c0 : P.cellsOf f0.type = 1) (c1 : P.cellsOf f1.type = 1) (c2 : P.cellsOf f2.type = 1) (c3 : P.cellsOf f3.type = 1) (c4 : P.cellsOf f4.type = 1) (c5 : P.cellsOf f5.type = 1)
    (h : DataW.trod enc P w base spare held fuel t cs = some x) :
    ∃ (v0 v1 v2 v3 v4 v5 : Value) (y0 y1 y2 y3 y4 y5 : DataW H × List MemPlace) (k : Nat), cs = [v0, v1, v2, v3, v4, v5] ∧ x.1 = .agg [y0.1, y1.1, y2.1, y3.1, y4.1, y5.1] ∧ DataW.trod enc P w base spare held k f0.type [v0] = some y0 ∧ DataW.trod enc P w base spare held k f1.type [v1] = some y1 ∧ DataW.trod enc P w base spare held k f2.type [v2] = some y2 ∧ DataW.trod enc P w base spare held k f3.type [v3] = some y3 ∧ DataW.trod enc P w base spare held k f4.type [v4] = some y4 ∧ DataW.trod enc P w base spare held k f5.type [v5] = some y5 := by
  obtain ⟨xs, k, hk, hxy, hcl, hxl, hf⟩ := DataW.trod_struct ht h
  rw [ce] at hcl
  match xs, hxl, cs, hcl with
  | [y0, y1, y2, y3, y4, y5], _, [v0, v1, v2, v3, v4, v5], _ =>
    have g0 := hf 0 f0 rfl
    have g1 := hf 1 f1 rfl
    have g2 := hf 2 f2 rfl
    have g3 := hf 3 f3 rfl
    have g4 := hf 4 f4 rfl
    have g5 := hf 5 f5 rfl
    simp [o0, o1, o2, o3, o4, o5, c0, c1, c2, c3, c4, c5] at g0 g1 g2 g3 g4 g5
    exact ⟨v0, v1, v2, v3, v4, v5, y0, y1, y2, y3, y4, y5, k, rfl, by rw [hxy]; rfl, g0, g1, g2, g3, g4, g5⟩

set_option maxRecDepth 100000 in
/-- What six cells read as a value, where shorter slices of values read as lists. -/
theorem val_cells {H : Type} {enc : TypeId × Value → H} {W : World} {N : Nat} {held : Bool} {n : Nat} {cs : List Value} {d : DataW H} {p : List MemPlace}
    (ih : ∀ {fuel : Nat} {v : Value} {d : DataW H} {p : List MemPlace}, Rows.uptoBulk d ≤ N → DataW.trod enc Tryd.prog W 0 (fun _ => true) held fuel 77 [v] = some (d, p) →
      ∃ A n cap l, v = .slice A n cap ∧ n ≤ cap ∧ LRd W (fun g => g < W.heap.size) l A n ∧ i64L l ∧ sizeL l < Rows.uptoBulk d)
    (hN : Rows.uptoBulk d ≤ N + 1) (h : DataW.trod enc Tryd.prog W 0 (fun _ => true) held n 84 cs = some (d, p)) :
    ∃ x, cs.toArray.size = 6 ∧ VRd W (fun g => g < W.heap.size) x (.agg cs.toArray) ∧ i64V x ∧ sizeV x ≤ Rows.uptoBulk d := by
  obtain ⟨v0, v1, v2, v3, v4, v5, y0, y1, y2, y3, y4, y5, k, rfl, hxy, g0, g1, g2, g3, g4, g5⟩ := trod_six Tryd.underlying84 (by kernel_rfl) rfl rfl rfl rfl rfl rfl (by kernel_rfl) (by kernel_rfl) (by kernel_rfl) (by kernel_rfl) (by kernel_rfl) (by kernel_rfl) h
  obtain ⟨k0, e0, d0, w0⟩ := DataW.trod_int (by kernel_rfl : Tryd.prog.underlying 3 = some (.int .i64)) g0
  obtain ⟨k1, e1, d1⟩ := DataW.trod_bool (by kernel_rfl : Tryd.prog.underlying 4 = some .bool) g1
  obtain ⟨k2, e2, d2, w2⟩ := DataW.trod_int (by kernel_rfl : Tryd.prog.underlying 2 = some (.int .i64)) g2
  obtain ⟨k3, e3, d3, w3⟩ := DataW.trod_string (by kernel_rfl : Tryd.prog.underlying 9 = some .string) g3
  obtain ⟨k4, e4, d4, w4⟩ := DataW.trod_string (by kernel_rfl : Tryd.prog.underlying 9 = some .string) g4
  injection e0 with e0 _
  injection e1 with e1 _
  injection e2 with e2 _
  injection e3 with e3 _
  injection e4 with e4 _
  subst e0 e1 e2 e3 e4 d0 d1 d2 d3 d4
  obtain ⟨y5, p5⟩ := y5
  simp only at hxy
  subst hxy
  have hbulk : 6 + k3.size + k4.size + Rows.uptoBulk y5 ≤ Rows.uptoBulk (DataW.agg [.lit (.int .i64 k0), .lit (.bool k1), .lit (.int .i64 k2), .lit (.string k3.data.toList), .lit (.string k4.data.toList), y5]) := by
    have z3 : k3.data.toList.length = k3.size := by rw [Array.length_toList]; rfl
    have z4 : k4.data.toList.length = k4.size := by rw [Array.length_toList]; rfl
    simp only [Rows.uptoBulk, Rows.uptoBulkAll]
    omega
  obtain ⟨A, m, cap, l, e5, hcap, hl, h64, hsz⟩ := ih (by omega) g5
  subst e5
  have hm : m = l.length := hl.1
  subst hm
  have h2 : -9223372036854775808 ≤ k2 ∧ k2 ≤ 9223372036854775807 := by simpa [Lit.wf, IntKind.min, IntKind.max, IntKind.signed, IntKind.bits] using w2
  refine ⟨.mk k0 k1 k2 k3 k4 l, rfl, VRd.of_list (v := .mk k0 k1 k2 k3 k4 l) hcap hl, ⟨h2, h64⟩, ?_⟩
  simp only [sizeV]
  omega

set_option maxRecDepth 100000 in
/-- What a slice of values reads as. -/
theorem vals_open {H : Type} {enc : TypeId × Value → H} {W : World} {held : Bool} (N : Nat) : ∀ {fuel : Nat} {v : Value} {d : DataW H} {p : List MemPlace}, Rows.uptoBulk d ≤ N → DataW.trod enc Tryd.prog W 0 (fun _ => true) held fuel 77 [v] = some (d, p) →
      ∃ A n cap l, v = .slice A n cap ∧ n ≤ cap ∧ LRd W (fun g => g < W.heap.size) l A n ∧ i64L l ∧ sizeL l < Rows.uptoBulk d := by
  induction N with
  | zero => intro fuel v d p hN; have := bulks.one_le d; omega
  | succ N ih =>
    intro fuel v d p hN h
    rcases Go.Deep.open_slice Tryd.underlying77 h with ⟨h3, hd⟩ | ⟨a, len, cap, m, n, D, Pl, h3, _, hlc, hcm, hm, hd, hel⟩
    · injection h3 with h3 _
      subst h3
      exact ⟨none, 0, 0, [], rfl, Nat.le_refl _, LRd.nil 0 rfl, trivial, by simp only [sizeL]; exact bulks.one_le d⟩
    · injection h3 with h3 _
      subst h3
      have hml : len ≤ m := by rw [hm]; split <;> omega
      injection hd with hd _
      subst hd
      have hb := bulks.slice_elems ((List.range len).map D) ((List.range (m - len)).map fun j => D (len + j))
      have hDi : ∀ i, i < len → Rows.uptoBulk (D i) ≤ N := fun i hi => by
        have := bulks.part_le (List.mem_map.2 ⟨i, List.mem_range.2 hi, rfl⟩ : D i ∈ (List.range len).map D)
        omega
      have each : ∀ i, i < len → ∃ q : Val × Array Value, q.2.size = 6 ∧ (∀ j, j < 6 → W.cell? (a.add (i * 6 + j)) = q.2[j]?) ∧ VRd W (fun g => g < W.heap.size) q.1 (.agg q.2) ∧ i64V q.1 ∧ sizeV q.1 ≤ Rows.uptoBulk (D i) := fun i hi => by
        obtain ⟨cs', c1, c2⟩ := hel i (by omega)
        rw [show Tryd.prog.cellsOf 84 = 6 by kernel_rfl] at c1
        obtain ⟨_, hlen, hcell⟩ := World.cells?_some c1
        obtain ⟨x, x1, x2, x3, x4⟩ := val_cells (fun hN h => ih hN h) (Nat.le_succ_of_le (hDi i hi)) c2
        exact ⟨(x, cs'.toArray), x1, fun j hj => by rw [← cellAdd, hcell j hj]; simp, x2, x3, x4⟩
      have hex : ∃ q : Nat → Val × Array Value, ∀ i, i < len → (q i).2.size = 6 ∧ (∀ j, j < 6 → W.cell? (a.add (i * 6 + j)) = (q i).2[j]?) ∧ VRd W (fun g => g < W.heap.size) (q i).1 (.agg (q i).2) ∧ i64V (q i).1 ∧ sizeV (q i).1 ≤ Rows.uptoBulk (D i) := by
        classical
        exact ⟨fun i => if hi : i < len then Classical.choose (each i hi) else (.mk 0 false 0 ⟨#[]⟩ ⟨#[]⟩ [], #[]), fun i hi => by simp only [dif_pos hi]; exact Classical.choose_spec (each i hi)⟩
      obtain ⟨q, hq⟩ := hex
      refine ⟨some a, len, cap, (List.range len).map fun i => (q i).1, rfl, hlc, ⟨by simp, fun hn => ⟨a, rfl, ?_, fun i x hx => ?_⟩⟩, ?_, ?_⟩
      · obtain ⟨cs', c1, _⟩ := hel 0 (by omega)
        rw [show Tryd.prog.cellsOf 84 = 6 by kernel_rfl] at c1
        obtain ⟨_, hlen, hcell⟩ := World.cells?_some c1
        have h0 := hcell 0 (by omega)
        rw [List.getElem?_eq_getElem (by omega)] at h0
        have := World.block_lt_of_cell? W _ h0
        simpa [Addr.add] using this
      · rw [List.getElem?_map] at hx
        have hil : i < len := by
          rcases Nat.lt_or_ge i len with h' | h'
          · exact h'
          · rw [List.getElem?_eq_none (by simpa using h')] at hx; cases hx
        rw [List.getElem?_range hil] at hx
        injection hx with hx
        subst hx
        obtain ⟨q1, q2, q3, _⟩ := hq i hil
        exact ⟨_, q1, q2, q3⟩
      · have : ∀ L : List Nat, (∀ i, i ∈ L → i < len) → i64L (L.map fun i => (q i).1) := fun L => by
          induction L with
          | nil => intro _; trivial
          | cons x r ihl => intro hL; exact ⟨(hq x (hL x (List.mem_cons_self ..))).2.2.2.1, ihl fun i hi => hL i (List.mem_cons_of_mem _ hi)⟩
        exact this _ fun i hi => List.mem_range.1 hi
      · have : ∀ L : List Nat, (∀ i, i ∈ L → i < len) → sizeL (L.map fun i => (q i).1) ≤ Rows.uptoBulkAll (L.map D) := fun L => by
          induction L with
          | nil => intro _; simp [sizeL]
          | cons x r ihl =>
            intro hL
            have h1 := (hq x (hL x (List.mem_cons_self ..))).2.2.2.2
            have h2 := ihl fun i hi => hL i (List.mem_cons_of_mem _ hi)
            simp only [List.map_cons, sizeL, Rows.uptoBulkAll]
            omega
        have := this (List.range len) fun i hi => List.mem_range.1 hi
        omega

set_option maxRecDepth 100000 in
/-- What the law's argument reads as. -/
theorem values_open {H : Type} {enc : TypeId × Value → H} {W : World} {base : Nat} {v : Value} {d : DataW H} {p : List MemPlace} (hv : Value.okWide Tryd.prog W .any base 79 v)
    (h : DataW.Trod enc Tryd.prog W 0 (fun _ => true) true 79 v d p) :
    ∃ A n cap l A2 n2 cap2 ys, v = .agg #[.slice A n cap, .slice A2 n2 cap2] ∧ LRd W (fun g => g < W.heap.size) l A n ∧ i64L l ∧ sizeL l < Rows.uptoBulk d ∧ Reads W W.heap.size 1 A2 n2 (ints ys) := by
  obtain ⟨v0, v1, y0, y1, m, rfl, rfl, rfl, h0, h1⟩ := open_agg2 Tryd.underlying79 (by kernel_rfl) (by kernel_rfl) hv h
  obtain ⟨A, n, cap, l, rfl, _, a1, a2, a3⟩ := vals_open _ (Nat.le_refl _) h0
  obtain ⟨A2, n2, cap2, ys, rfl, b1, b2, b3⟩ := ints_open h1 rfl
  refine ⟨A, n, cap, l, A2, n2, cap2, ys, rfl, a1, a2, ?_, b1⟩
  simp only [Rows.uptoBulk, Rows.uptoBulkAll]
  omega

end Go.Proofs.YtdhnmgndekncpaaDoor
