/- What a law's column reads as. -/
import Derived.Test.YtdhnmgndekncpaaDoorN2
import Derived.Test.YtdhnmgndekncpaaDoorQ0
import Derived.Deep.SlicePairs
namespace Go.Proofs.YtdhnmgndekncpaaDoor
open Go Go.ChangeShapes Go.WideShapes Go.ChangeAt Go.RowKit Go.Joins

theorem cellsOf_length (L : List (Int × Bool)) : (cellsOf L).length = L.length * 2 := by
  unfold cellsOf
  induction L with
  | nil => rfl
  | cons a r ih => rw [List.flatMap_cons, List.length_append, ih, List.length_cons]; simp; omega
theorem cellsOf_get {L : List (Int × Bool)} {j : Nat} {u : Value} (h : (cellsOf L)[j]? = some u) : ∃ c, L[j / 2]? = some c ∧ u = if j % 2 = 0 then .int .i64 c.1 else .bool c.2 := by
  have hl : j < L.length * 2 := by
    rcases Nat.lt_or_ge j (L.length * 2) with h' | h'
    · exact h'
    · rw [List.getElem?_eq_none (by rw [cellsOf_length]; exact h')] at h; cases h
  have hx : L[j / 2]? = some (L[j / 2]'(by omega)) := List.getElem?_eq_getElem _
  refine ⟨_, hx, ?_⟩
  obtain ⟨q1, q2⟩ := cellsOf_at hx
  by_cases h2 : j % 2 = 0
  · rw [if_pos h2]
    rw [show j / 2 * 2 = j by omega, h] at q1
    injection q1
  · rw [if_neg h2]
    rw [show j / 2 * 2 + 1 = j by omega, h] at q2
    injection q2
/-- What a slice of cells reads as. -/
theorem cells_open {H : Type} {enc : TypeId × Value → H} {W : World} {spare : Nat → Bool} {held : Bool} {v : Value} {d : DataW H} {p : List MemPlace} {fuel : Nat}
    (h : DataW.trod enc Tryd.prog W 0 spare held fuel 48 [v] = some (d, p)) (hsp : spare = fun _ => true) :
    ∃ A n cap L, v = .slice A n cap ∧ Reads W W.heap.size 2 A n (cellsOf L) := by
  subst hsp
  rcases Go.Deep.open_slice_pairs Tryd.underlying48 Tryd.underlying54 (by kernel_rfl) rfl rfl (by kernel_rfl) (by kernel_rfl) h with ⟨h3, _⟩ | ⟨a, len, cap, m, n, V0, V1, D0, D1, P0, P1, h3, _, hlc, hcm, hm, _, hc⟩
  · injection h3 with h3 _
    subst h3
    exact ⟨none, 0, 0, [], rfl, Reads.none_⟩
  · injection h3 with h3 _
    subst h3
    have hml : len ≤ m := by rw [hm]; split <;> omega
    have each : ∀ i, i < m → ∃ N nu, V0 i = .int .i64 N ∧ V1 i = .bool nu := fun i hi => by
      obtain ⟨_, _, t0, t1⟩ := hc i hi
      obtain ⟨N, h0, _, _⟩ := DataW.trod_int (by kernel_rfl : Tryd.prog.underlying 2 = some (.int .i64)) t0
      obtain ⟨nu, h1, _⟩ := DataW.trod_bool (by kernel_rfl : Tryd.prog.underlying 4 = some .bool) t1
      injection h0 with h0 _
      injection h1 with h1 _
      exact ⟨N, nu, h0, h1⟩
    let N0 : Nat → Int := fun i => match V0 i with | .int _ x => x | _ => 0
    let B0 : Nat → Bool := fun i => match V1 i with | .bool x => x | _ => false
    refine ⟨some a, len, cap, (List.range len).map fun i => (N0 i, B0 i), rfl, ?_, fun hn => ⟨a, rfl, ?_, ?_⟩⟩
    · rw [cellsOf_length]; simp
    · have := World.block_lt_of_cell? W _ (hc 0 (by omega)).1
      simpa [Addr.add] using this
    · intro j u hu
      obtain ⟨c, hcc, hu2⟩ := cellsOf_get hu
      rw [List.getElem?_map] at hcc
      have hjl : j / 2 < len := by
        rcases Nat.lt_or_ge (j / 2) len with h' | h'
        · exact h'
        · rw [List.getElem?_eq_none (by simpa using h')] at hcc; cases hcc
      rw [List.getElem?_range hjl] at hcc
      injection hcc with hcc
      subst hcc
      obtain ⟨c0, c1, _, _⟩ := hc (j / 2) (by omega)
      obtain ⟨N, nu, e0, e1⟩ := each (j / 2) (by omega)
      rw [hu2]
      by_cases h2 : j % 2 = 0
      · rw [if_pos h2]
        have e : j / 2 * 2 = j := by omega
        rw [e] at c0
        rw [c0]
        simp only [N0, e0]
      · rw [if_neg h2]
        have e : j / 2 * 2 + 1 = j := by omega
        rw [e] at c1
        rw [c1]
        simp only [B0, e1]

theorem columns_reach {H : Type} {d0 d1 : DataW H} {es sp : List (DataW H)} (h : (DataW.weightsEach Tryd.prog [50] [DataW.agg [d0, d1, .slice es sp]]).all (· ≤ reachBytes) = true) : es.length < 17592186044415 := by
  have hm : (es.length + sp.length) * Tryd.prog.bytesOf 3 ∈ DataW.weightsEach Tryd.prog [50] [DataW.agg [d0, d1, .slice es sp]] := by
    simp only [DataW.weightsEach, DataW.weights, Tryd.underlying50, Tryd.underlying23, List.map_cons, List.map_nil, List.mem_append, List.mem_cons]
    simp
  have this : (es.length + sp.length) * Tryd.prog.bytesOf 3 ≤ reachBytes := of_decide_eq_true (List.all_eq_true.1 h _ hm)
  rw [show Tryd.prog.bytesOf 3 = 8 by kernel_rfl] at this
  unfold reachBytes at this
  omega

set_option maxRecDepth 100000 in
/-- What a law's column reads as, within the form's reach. -/
theorem columns_open {H : Type} {enc : TypeId × Value → H} {W : World} {base : Nat} {v : Value} {d : DataW H} {p : List MemPlace} (hv : Value.okWide Tryd.prog W .any base 50 v)
    (h : DataW.Trod enc Tryd.prog W 0 (fun _ => true) true 50 v d p) (hz : (DataW.weightsEach Tryd.prog [50] [d]).all (· ≤ reachBytes) = true) :
    ∃ A n cap L A1 n1 cap1 ys A2 n2 cap2 ts, v = .agg #[.slice A n cap, .slice A1 n1 cap1, .slice A2 n2 cap2] ∧ Reads W W.heap.size 2 A n (cellsOf L) ∧ Reads W W.heap.size 1 A1 n1 (ints ys) ∧ Reads W W.heap.size 1 A2 n2 (ints ts) ∧ n2 < 17592186044415 := by
  obtain ⟨v0, v1, v2, y0, y1, y2, m, rfl, rfl, rfl, h0, h1, h2⟩ := open_agg3 Tryd.underlying50 (by kernel_rfl) (by kernel_rfl) hv h
  obtain ⟨A, n, cap, L, rfl, a1⟩ := cells_open h0 rfl
  obtain ⟨A1, n1, cap1, ys, rfl, b1, _, _⟩ := ints_open h1 rfl
  obtain ⟨A2, n2, cap2, ts, rfl, c1, _, _, c4⟩ := ints_sized h2 rfl
  refine ⟨A, n, cap, L, A1, n1, cap1, ys, A2, n2, cap2, ts, rfl, a1, b1, c1, ?_⟩
  rcases c4 with rfl | ⟨es, sp, h3, h4⟩
  · omega
  · have h3 : y2.1 = DataW.slice es sp := h3
    rw [h3] at hz
    have := columns_reach hz
    omega

end Go.Proofs.YtdhnmgndekncpaaDoor
