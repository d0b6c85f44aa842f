/- Walk of same; rows of lexemes. -/
import Derived.Test.YtaaomjpkgpjegaaD4
import Derived.Test.YtaaomjpkgpjegaaE3
namespace Go.Proofs.Ytaaomjpkgpjegaa
open Go Go.RowKit

theorem struct36 : Try.prog.underlying 36 = some (.struct (Try.prog.fieldsOf 36)) := by kernel_rfl
theorem held36 : Try.prog.stoodInHeld 36 = false := by kernel_rfl
theorem guard36 : Try.prog.eqGuardType Try.prog.depth 36 = false := by kernel_rfl

theorem Reads.five {w : World} {B n : Nat} {A : Option Addr} {xs : List Value} (h : Reads w B 5 A n xs) {k : Nat} (hk : k < n) : ∃ ad, A = some ad ∧ ∀ j, j < 5 → ∃ u, xs[k * 5 + j]? = some u ∧ w.cell? (ad.add (k * 5 + j)) = some u := by
  obtain ⟨ad, rfl, _, hc⟩ := h.2 (by omega)
  refine ⟨ad, rfl, fun j hj => ?_⟩
  have hl : k * 5 + j < xs.length := by have := h.1; omega
  exact ⟨xs[k * 5 + j], List.getElem?_eq_getElem hl, hc _ _ (List.getElem?_eq_getElem hl)⟩

set_option maxRecDepth 100000 in
set_option maxHeartbeats 1000000 in
theorem neq36 (W : World) (a d e : Int) (b c : ByteArray) :
    (binOp .neq 36 (.agg #[.int .i64 a, .string b, .string c, .int .i64 d, .int .i64 e]) (.agg #[.int .i64 a, .string b, .string c, .int .i64 d, .int .i64 e])).run Try.prog W = .ok (.bool false) W := by
  rw [run_neq_struct, run_equalIn_agg W 9999 36 _ _ struct36 held36]
  have hf : (Try.prog.fieldsOf 36).toList.map (fun f => (f.name, f.type, f.offset)) = [("Kind", 3, 0), ("Text", 9, 1), ("Extra", 9, 2), ("At", 3, 3), ("End", 3, 4)] := by kernel_rfl
  have hl : (Try.prog.fieldsOf 36).toList.length = 5 := by kernel_rfl
  obtain ⟨f0, f1, f2, f3, f4, he⟩ : ∃ f0 f1 f2 f3 f4, (Try.prog.fieldsOf 36).toList = [f0, f1, f2, f3, f4] := by
    match (Try.prog.fieldsOf 36).toList, hl with
    | [f0, f1, f2, f3, f4], _ => exact ⟨_, _, _, _, _, rfl⟩
  rw [he] at hf ⊢
  simp only [List.map_cons, List.map_nil, List.cons.injEq, Prod.mk.injEq, and_true] at hf
  obtain ⟨⟨n0, y0, o0⟩, ⟨n1, y1, o1⟩, ⟨n2, y2, o2⟩, ⟨n3, y3, o3⟩, ⟨n4, y4, o4⟩⟩ := hf
  simp only [Op.eqFields, n0, y0, o0, n1, y1, o1, n2, y2, o2, n3, y3, o3, n4, y4, o4]
  have hu3 : Try.prog.underlying 3 = some (.int .i64) := by kernel_rfl
  have hu9 : Try.prog.underlying 9 = some .string := by kernel_rfl
  clear n0 y0 o0 n1 y1 o1 n2 y2 o2 n3 y3 o3 n4 y4 o4 he hl f0 f1 f2 f3 f4
  go_simp

theorem isAgg36 (W : World) : (isAgg 36).run Try.prog W = .ok true W := by
  simp only [isAgg, Sem.run_bind, run_underlying struct36, Result.andThen_ok]
  rfl
theorem size36 (W : World) : (sizeOf 36).run Try.prog W = .ok 5 W := by
  have h : (Try.prog.info? 36).isSome = true := by kernel_rfl
  obtain ⟨i, hi⟩ := Option.isSome_iff_exists.1 h
  rw [run_sizeOf W hi, show Try.prog.cellsOf 36 = 5 by kernel_rfl]

set_option maxRecDepth 100000 in
set_option maxHeartbeats 1000000 in
theorem same_any (A B : Option Addr) (ca cb : Nat) (ts : List Tok) (w : World) (hn : ts.length ≤ 100000) (ha : Reads w w.heap.size 5 A ts.length (flat ts)) (hb : Reads w w.heap.size 5 B ts.length (flat ts)) :
    Calls Try.prog 10 #[.slice A ts.length ca, .slice B ts.length cb] w fun e w' => e = .returned (.bool true) ∧ ∃ k, w' = w.drewN k := by
  obtain ⟨n, HN⟩ := name_it ts.length
  rw [HN.out] at hn ha hb ⊢
  have t0 : ((n : Int) != n) = false := by simp
  go_enter Try.func10, Try.ntmps10
  go_wp2
  go_loopw [5] (fun i wr => ∃ k : Nat, k ≤ n ∧ i = .int .i64 k ∧ ∃ j, wr = w.drewN j) (fun i _ => n - (intOf i).toNat)
  case atStart => exact ⟨0, by omega, rfl, 0, rfl⟩
  case round =>
    obtain ⟨k, hk, rfl, j, rfl⟩ := hrel
    by_cases hlt : k < n
    · have hkt : k < ts.length := by rw [HN.out]; exact hlt
      obtain ⟨aa, rfl, hca⟩ := ha.five hlt
      obtain ⟨bb, rfl, hcb⟩ := hb.five hlt
      have a0 : w.cell? ((aa.add (k * 5)).add 0) = (tokCells ts[k])[0]? := by obtain ⟨u, h1, h2⟩ := hca 0 (by omega); rw [add_of_add, h2, ← h1, flat_at ts k 0 hkt (by omega)]
      have a1 : w.cell? ((aa.add (k * 5)).add 1) = (tokCells ts[k])[1]? := by obtain ⟨u, h1, h2⟩ := hca 1 (by omega); rw [add_of_add, h2, ← h1, flat_at ts k 1 hkt (by omega)]
      have a2 : w.cell? ((aa.add (k * 5)).add 2) = (tokCells ts[k])[2]? := by obtain ⟨u, h1, h2⟩ := hca 2 (by omega); rw [add_of_add, h2, ← h1, flat_at ts k 2 hkt (by omega)]
      have a3 : w.cell? ((aa.add (k * 5)).add 3) = (tokCells ts[k])[3]? := by obtain ⟨u, h1, h2⟩ := hca 3 (by omega); rw [add_of_add, h2, ← h1, flat_at ts k 3 hkt (by omega)]
      have a4 : w.cell? ((aa.add (k * 5)).add 4) = (tokCells ts[k])[4]? := by obtain ⟨u, h1, h2⟩ := hca 4 (by omega); rw [add_of_add, h2, ← h1, flat_at ts k 4 hkt (by omega)]
      have b0 : w.cell? ((bb.add (k * 5)).add 0) = (tokCells ts[k])[0]? := by obtain ⟨u, h1, h2⟩ := hcb 0 (by omega); rw [add_of_add, h2, ← h1, flat_at ts k 0 hkt (by omega)]
      have b1 : w.cell? ((bb.add (k * 5)).add 1) = (tokCells ts[k])[1]? := by obtain ⟨u, h1, h2⟩ := hcb 1 (by omega); rw [add_of_add, h2, ← h1, flat_at ts k 1 hkt (by omega)]
      have b2 : w.cell? ((bb.add (k * 5)).add 2) = (tokCells ts[k])[2]? := by obtain ⟨u, h1, h2⟩ := hcb 2 (by omega); rw [add_of_add, h2, ← h1, flat_at ts k 2 hkt (by omega)]
      have b3 : w.cell? ((bb.add (k * 5)).add 3) = (tokCells ts[k])[3]? := by obtain ⟨u, h1, h2⟩ := hcb 3 (by omega); rw [add_of_add, h2, ← h1, flat_at ts k 3 hkt (by omega)]
      have b4 : w.cell? ((bb.add (k * 5)).add 4) = (tokCells ts[k])[4]? := by obtain ⟨u, h1, h2⟩ := hcb 4 (by omega); rw [add_of_add, h2, ← h1, flat_at ts k 4 hkt (by omega)]
      clear hca hcb
      generalize ts[k] = t at *
      clear hkt
      obtain ⟨⟨kd, tx, ex, ln⟩, at_, en⟩ := t
      change w.cell? (aa.add (k * 5)) = some (.int .i64 kd) at a0
      change w.cell? ⟨(aa.add (k * 5)).block, (aa.add (k * 5)).off + 1, none⟩ = some (.string (strB tx)) at a1
      change w.cell? ⟨(aa.add (k * 5)).block, (aa.add (k * 5)).off + 2, none⟩ = some (.string (strB ex)) at a2
      change w.cell? ⟨(aa.add (k * 5)).block, (aa.add (k * 5)).off + 3, none⟩ = some (.int .i64 at_) at a3
      change w.cell? ⟨(aa.add (k * 5)).block, (aa.add (k * 5)).off + 4, none⟩ = some (.int .i64 en) at a4
      change w.cell? (bb.add (k * 5)) = some (.int .i64 kd) at b0
      change w.cell? ⟨(bb.add (k * 5)).block, (bb.add (k * 5)).off + 1, none⟩ = some (.string (strB tx)) at b1
      change w.cell? ⟨(bb.add (k * 5)).block, (bb.add (k * 5)).off + 2, none⟩ = some (.string (strB ex)) at b2
      change w.cell? ⟨(bb.add (k * 5)).block, (bb.add (k * 5)).off + 3, none⟩ = some (.int .i64 at_) at b3
      change w.cell? ⟨(bb.add (k * 5)).block, (bb.add (k * 5)).off + 4, none⟩ = some (.int .i64 en) at b4
      generalize strB tx = TX at *
      generalize strB ex = EX at *
      have hla : ∀ m, (loadCells (aa.add (k * 5)) 5).run Try.prog (w.drewN m) = .ok #[.int .i64 kd, .string TX, .string EX, .int .i64 at_, .int .i64 en] (w.drewN m) := fun m =>
        run_loadCells_list (w.drewN m) (aa.add (k * 5)) [.int .i64 kd, .string TX, .string EX, .int .i64 at_, .int .i64 en] (fun j v hj => by
          match j, hj with
          | 0, hj => cases hj; exact a0
          | 1, hj => cases hj; exact a1
          | 2, hj => cases hj; exact a2
          | 3, hj => cases hj; exact a3
          | 4, hj => cases hj; exact a4
          | j + 5, hj => cases hj)
      have hlb : ∀ m, (loadCells (bb.add (k * 5)) 5).run Try.prog (w.drewN m) = .ok #[.int .i64 kd, .string TX, .string EX, .int .i64 at_, .int .i64 en] (w.drewN m) := fun m =>
        run_loadCells_list (w.drewN m) (bb.add (k * 5)) [.int .i64 kd, .string TX, .string EX, .int .i64 at_, .int .i64 en] (fun j v hj => by
          match j, hj with
          | 0, hj => cases hj; exact b0
          | 1, hj => cases hj; exact b1
          | 2, hj => cases hj; exact b2
          | 3, hj => cases hj; exact b3
          | 4, hj => cases hj; exact b4
          | j + 5, hj => cases hj)
      have hc36 : Try.prog.cellsOf 36 = 5 := by kernel_rfl
      have hst := struct36
      have hia := isAgg36
      have hs36 := size36
      have hneq := fun W => neq36 W kd at_ en TX EX
      have e1 : (0 : Int) ≤ k := by omega
      have e2 : (k : Int) < n := by omega
      go_wp2
      go_quiet (fail)
      go_wp2
      go_roundw
      case rel => exact ⟨k + 1, by omega, by go_num, _, rfl⟩
      case measure => simp [intOf]; omega
    · go_wp2
      go_ret
      exact ⟨rfl, _, rfl⟩

theorem infoLexeme : (Try.prog.info? 36).map (fun i => (i.zero, i.size, i.bytes)) = some (some (.agg #[.int .i64 0, .string ⟨#[]⟩, .string ⟨#[]⟩, .int .i64 0, .int .i64 0]), 5, 56) := by kernel_rfl

theorem same_rows {w : World} {v u : Value} {B1 B2 n m : Nat} {ts : List Tok} (hn : n = ts.length) (hm : m = ts.length) (hl : ts.length ≤ 100000) (h1 : w.ownsRow B1 36 5 v n (flat ts)) (h2 : w.ownsRow B2 36 5 u m (flat ts)) :
    Calls Try.prog 10 #[v, u] w fun e w' => e = .returned (.bool true) ∧ ∃ k, w' = w.drewN k := by
  subst hn
  subst hm
  have form : ∀ {v : Value} {B : Nat}, w.ownsRow B 36 5 v ts.length (flat ts) → ∃ A c, v = .slice A ts.length c := by
    intro v B h
    rcases h.2 with ⟨rfl, h0⟩ | ⟨g, cap, cur, rfl, _⟩
    · exact ⟨none, 0, by rw [h0]⟩
    · exact ⟨_, cap, rfl⟩
  obtain ⟨A1, c1, rfl⟩ := form h1
  obtain ⟨A2, c2, rfl⟩ := form h2
  exact same_any A1 A2 c1 c2 ts w hl (Reads.of_own h1) (Reads.of_own h2)

theorem own_below {w w' : World} {base : Nat} {e : TypeId} {size : Nat} {v : Value} {n : Nat} {xs : List Value} (h : w.ownsRow base e size v n xs) (hb : Below w.heap.size w w') : w'.ownsRow base e size v n xs :=
  h.kept (below_grown hb none) (Classical.em _)

theorem far_blocks {a b : Option Nat} (h : ∀ k, a = some k → b = some k → False) : a = none ∨ a ≠ b := by
  cases a with
  | none => exact .inl rfl
  | some k => exact .inr fun e => h k rfl e.symm

end Go.Proofs.Ytaaomjpkgpjegaa
