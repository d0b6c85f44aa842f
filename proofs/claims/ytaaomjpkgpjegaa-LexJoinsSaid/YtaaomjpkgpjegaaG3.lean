/- Walk of same. -/
import Derived.Test.YtaaomjpkgpjegaaF3
import Derived.Test.YtaaomjpkgpjegaaG2
namespace Go.Proofs.Ytaaomjpkgpjegaa
open Go Go.RowKit

theorem struct36 : Try.prog.underlying 36 = some (.struct (Try.prog.fieldsOf 36)) := by kernel_rfl
theorem held36 : Try.prog.stoodInHeld 36 = false := by kernel_rfl
theorem guard36 : Try.prog.eqGuardType Try.prog.depth 36 = false := by kernel_rfl

theorem Reads.five {w : World} {B n : Nat} {A : Option Addr} {xs : List Value} (h : Reads w B 5 A n xs) {k : Nat} (hk : k < n) : ∃ ad, A = some ad ∧ ∀ j, j < 5 → ∃ u, xs[k * 5 + j]? = some u ∧ w.cell? (ad.add (k * 5 + j)) = some u := by
  obtain ⟨ad, rfl, _, hc⟩ := h.2 (by omega)
  refine ⟨ad, rfl, fun j hj => ?_⟩
  have hl : k * 5 + j < xs.length := by have := h.1; omega
  exact ⟨xs[k * 5 + j], List.getElem?_eq_getElem hl, hc _ _ (List.getElem?_eq_getElem hl)⟩

set_option maxRecDepth 100000 in
set_option maxHeartbeats 1000000 in
theorem neq36 (W : World) (a d e : Int) (b c : ByteArray) :
    (binOp .neq 36 (.agg #[.int .i64 a, .string b, .string c, .int .i64 d, .int .i64 e]) (.agg #[.int .i64 a, .string b, .string c, .int .i64 d, .int .i64 e])).run Try.prog W = .ok (.bool false) W := by
  rw [run_neq_struct, run_equalIn_agg W 9999 36 _ _ struct36 held36]
  have hf : (Try.prog.fieldsOf 36).toList.map (fun f => (f.name, f.type, f.offset)) = [("Kind", 3, 0), ("Text", 9, 1), ("Extra", 9, 2), ("At", 3, 3), ("End", 3, 4)] := by kernel_rfl
  have hl : (Try.prog.fieldsOf 36).toList.length = 5 := by kernel_rfl
  obtain ⟨f0, f1, f2, f3, f4, he⟩ : ∃ f0 f1 f2 f3 f4, (Try.prog.fieldsOf 36).toList = [f0, f1, f2, f3, f4] := by
    match (Try.prog.fieldsOf 36).toList, hl with
    | [f0, f1, f2, f3, f4], _ => exact ⟨_, _, _, _, _, rfl⟩
  rw [he] at hf ⊢
  simp only [List.map_cons, List.map_nil, List.cons.injEq, Prod.mk.injEq, and_true] at hf
  obtain ⟨⟨n0, y0, o0⟩, ⟨n1, y1, o1⟩, ⟨n2, y2, o2⟩, ⟨n3, y3, o3⟩, ⟨n4, y4, o4⟩⟩ := hf
  simp only [Op.eqFields, n0, y0, o0, n1, y1, o1, n2, y2, o2, n3, y3, o3, n4, y4, o4]
  have hu3 : Try.prog.underlying 3 = some (.int .i64) := by kernel_rfl
  have hu9 : Try.prog.underlying 9 = some .string := by kernel_rfl
  clear n0 y0 o0 n1 y1 o1 n2 y2 o2 n3 y3 o3 n4 y4 o4 he hl f0 f1 f2 f3 f4
  go_simp

end Go.Proofs.Ytaaomjpkgpjegaa
