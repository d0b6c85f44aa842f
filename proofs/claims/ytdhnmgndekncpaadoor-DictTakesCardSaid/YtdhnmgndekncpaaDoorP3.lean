/- Facts on columns side by side, and on what is taken twice. -/
import Derived.Test.YtdhnmgndekncpaaDoorP2
import Derived.Test.YtdhnmgndekncpaaDoorS0
import Derived.Laws.StructEq
namespace Go.Proofs.YtdhnmgndekncpaaDoor
open Go Go.RowKit Go.Maps Go.WideMaps

theorem struct68 : Tryd.prog.underlying 68 = some (.struct (Tryd.prog.fieldsOf 68)) := by kernel_rfl
theorem held68 : Tryd.prog.stoodInHeld 68 = false := by kernel_rfl
theorem guard68 : Tryd.prog.eqGuardType Tryd.prog.depth 68 = false := by kernel_rfl
set_option maxRecDepth 100000 in
theorem neq68 (W : World) (a : Int) (b : ByteArray) :
    (binOp .neq 68 (.agg #[.int .i64 a, .string b]) (.agg #[.int .i64 a, .string b])).run Tryd.prog W = .ok (.bool false) W := by
  rw [run_neq_struct, run_equalIn_agg W 9999 68 _ _ struct68 held68]
  have hf : (Tryd.prog.fieldsOf 68).toList.map (fun f => (f.name, f.type, f.offset)) = [("a", 3, 0), ("b", 9, 1)] := by kernel_rfl
  have hl : (Tryd.prog.fieldsOf 68).toList.length = 2 := by kernel_rfl
  obtain ⟨f0, f1, he⟩ : ∃ f0 f1, (Tryd.prog.fieldsOf 68).toList = [f0, f1] := by
    match (Tryd.prog.fieldsOf 68).toList, hl with
    | [f0, f1], _ => exact ⟨_, _, rfl⟩
  rw [he] at hf ⊢
  simp only [List.map_cons, List.map_nil, List.cons.injEq, Prod.mk.injEq, and_true] at hf
  obtain ⟨⟨n0, y0, o0⟩, ⟨n1, y1, o1⟩⟩ := hf
  simp only [Op.eqFields, n0, y0, o0, n1, y1, o1]
  have hu3 : Tryd.prog.underlying 3 = some (.int .i64) := by kernel_rfl
  have hu9 : Tryd.prog.underlying 9 = some .string := by kernel_rfl
  clear n0 y0 o0 n1 y1 o1 he hl f0 f1
  go_simp

section
variable {C E sz : Nat} {w w' : World} {B c nl : Nat} {v u : Value} {n : Nat} {vs : List Value} {bs : List Nat} {fs : List Bool}
/-- What turns is of other types, or other bits. -/
theorem Col.kept (h : Col C E sz w B c v u n vs bs fs nl) {S : Nat → Prop} (ht : Turn S w w') (hS : ∀ i, S i → ∃ cur e, w.heap[i]? = some (.cells cur e (0, 0)) ∧ e ≠ C ∧ e ≠ E ∧ (e = 112 → u.ownBlock ≠ some i)) : Col C E sz w' B c v u n vs bs fs nl := by
  refine h.turn ht (fun hc => ?_) (fun g hg hs => ?_) (fun g hg hs => ?_)
  · obtain ⟨cur, e, h1, h2, _, _⟩ := hS c hc
    rw [h.blk] at h1
    injection h1 with h1
    injection h1 with _ h1
    exact h2 h1.symm
  · obtain ⟨cur, e, h1, _, h2, _⟩ := hS g hs
    obtain ⟨cur', h3⟩ := own_type h.vals hg
    rw [h3] at h1
    injection h1 with h1
    injection h1 with _ h1
    exact h2 h1.symm
  · obtain ⟨cur, e, h1, _, _, h2⟩ := hS g hs
    obtain ⟨cur', h3⟩ := own_type h.bits hg
    rw [h3] at h1
    injection h1 with h1
    injection h1 with _ h1
    exact h2 h1.symm hg
theorem Col.types (h : Col C E sz w B c v u n vs bs fs nl) : ∀ i, SC c v u i → ∃ cur e, w.heap[i]? = some (.cells cur e (0, 0)) ∧ (e = C ∨ e = E ∨ (e = 112 ∧ u.ownBlock = some i)) := by
  rintro i (rfl | hi | hi)
  · exact ⟨_, C, h.blk, .inl rfl⟩
  · obtain ⟨cur, hc⟩ := own_type h.vals hi.symm
    exact ⟨cur, E, hc, .inr (.inl rfl)⟩
  · obtain ⟨cur, hc⟩ := own_type h.bits hi.symm
    exact ⟨cur, 112, hc, .inr (.inr ⟨rfl, hi.symm⟩)⟩
/-- A row that was appended to is of another type. -/
theorem Col.grown (h : Col C E sz w B c v u n vs bs fs nl) {base e size m : Nat} {r : Value} {xs : List Value} (hr : w.ownsRow base e size r m xs) (hg : w.grownBy w' r.ownBlock) (h1 : e ≠ C) (h2 : e ≠ E) (h3 : e ≠ 112) : Col C E sz w' B c v u n vs bs fs nl :=
  h.kept (Turn.of_grown hg) (fun i hi => by
    obtain ⟨cur, hc⟩ := own_type hr hi.symm
    exact ⟨cur, e, hc, h1, h2, fun h => absurd h h3⟩)
end
theorem own_below {w w' : World} {base e size n B' : Nat} {v : Value} {xs : List Value} (h : w.ownsRow base e size v n xs) (hb : Below B' w w') (hB : w.heap.size ≤ B') : w'.ownsRow base e size v n xs :=
  (Turn.of_below hb).owns h (fun g hg => by have := (h.lt g hg).2; omega)

theorem pickedNull_all (F : List Bool) : pickedNull F ((List.range F.length).map fun i : Nat => (i : Int)) = F := by
  unfold pickedNull
  rw [List.map_map]
  apply List.ext_getElem
  · simp
  · intro i h1 h2
    simp [List.getD_eq_getElem?_getD, List.getElem?_eq_getElem h2]
/-- The odd numbers below k. -/
def oddN (k : Nat) : List Nat := (List.range k).filter fun i => i % 2 == 1
theorem oddN_succ (k : Nat) : oddN (k + 1) = if k % 2 = 1 then oddN k ++ [k] else oddN k := by
  unfold oddN
  rw [List.range_succ, List.filter_append]
  by_cases h : k % 2 = 1 <;> simp [h]
theorem oddN_lt {k i : Nat} (h : i ∈ oddN k) : i < k := by
  unfold oddN at h
  exact List.mem_range.1 (List.mem_filter.1 h).1
theorem oddN_le (k : Nat) : (oddN k).length ≤ k := by
  have := List.length_filter_le (fun i : Nat => i % 2 == 1) (List.range k)
  unfold oddN
  simpa using this
def nats (l : List Nat) : List Int := l.map fun i : Nat => (i : Int)
/-- The numbers below M, the greatest first: the first j of them. -/
def lastOf (M j : Nat) : List Int := (List.range j).map fun t => ((M - 1 - t : Nat) : Int)
theorem lastOf_succ (M j : Nat) : lastOf M (j + 1) = lastOf M j ++ [((M - 1 - j : Nat) : Int)] := by unfold lastOf; rw [List.range_succ, List.map_append]; rfl
theorem lastOf_at {M i : Nat} (h : i < M) : (lastOf M M)[i]? = some ((M - 1 - i : Nat) : Int) := by
  unfold lastOf
  rw [List.getElem?_map, List.getElem?_range h]; rfl
theorem pick2 {xs : List (Int × ByteArray)} {od : List Nat} {M i o : Nat} {x : Int} {s : ByteArray} (hi : i < M) (ho : od[M - 1 - i]? = some o) (hx : xs[o]? = some (x, s)) : (pickP (pickP xs (nats od)) (lastOf M M))[i]? = some (x, s) := by
  have h1 : (pickP xs (nats od))[M - 1 - i]? = some (x, s) := by
    unfold pickP nats
    rw [List.getElem?_map, List.getElem?_map, ho]
    simp [List.getD_eq_getElem?_getD, hx]
  show ((lastOf M M).map fun i => (pickP xs (nats od)).getD i.toNat (0, ⟨#[]⟩))[i]? = _
  rw [List.getElem?_map, lastOf_at hi]
  simp [List.getD_eq_getElem?_getD, h1]
theorem pick2N {F : List Bool} {od : List Nat} {M i o : Nat} {f : Bool} (hi : i < M) (ho : od[M - 1 - i]? = some o) (hx : F[o]? = some f) : (pickedNull (pickedNull F (nats od)) (lastOf M M))[i]? = some f := by
  have h1 : (pickedNull F (nats od))[M - 1 - i]? = some f := by
    unfold pickedNull nats
    rw [List.getElem?_map, List.getElem?_map, ho]
    simp [List.getD_eq_getElem?_getD, hx]
  show ((lastOf M M).map fun i => (pickedNull F (nats od)).getD i.toNat false)[i]? = _
  rw [List.getElem?_map, lastOf_at hi]
  simp [List.getD_eq_getElem?_getD, h1]
end Go.Proofs.YtdhnmgndekncpaaDoor
