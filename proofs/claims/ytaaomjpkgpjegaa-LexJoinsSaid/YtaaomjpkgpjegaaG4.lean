/- Walk of same. -/
import Derived.Test.YtaaomjpkgpjegaaG3
namespace Go.Proofs.Ytaaomjpkgpjegaa
open Go Go.RowKit

theorem isAgg36 (W : World) : (isAgg 36).run Try.prog W = .ok true W := by
  simp only [isAgg, Sem.run_bind, run_underlying struct36, Result.andThen_ok]
  rfl
theorem size36 (W : World) : (sizeOf 36).run Try.prog W = .ok 5 W := by
  have h : (Try.prog.info? 36).isSome = true := by kernel_rfl
  obtain ⟨i, hi⟩ := Option.isSome_iff_exists.1 h
  rw [run_sizeOf W hi, show Try.prog.cellsOf 36 = 5 by kernel_rfl]

set_option maxRecDepth 100000 in
set_option maxHeartbeats 1000000 in
theorem same_any (A B : Option Addr) (ca cb : Nat) (ts : List Tok) (w : World) (hn : ts.length ≤ 100000) (ha : Reads w w.heap.size 5 A ts.length (flat ts)) (hb : Reads w w.heap.size 5 B ts.length (flat ts)) :
    Calls Try.prog 10 #[.slice A ts.length ca, .slice B ts.length cb] w fun e w' => e = .returned (.bool true) ∧ ∃ k, w' = w.drewN k := by
  obtain ⟨n, HN⟩ := name_it ts.length
  rw [HN.out] at hn ha hb ⊢
  have t0 : ((n : Int) != n) = false := by simp
  go_enter Try.func10, Try.ntmps10
  go_wp2
  go_loopw [5] (fun i wr => ∃ k : Nat, k ≤ n ∧ i = .int .i64 k ∧ ∃ j, wr = w.drewN j) (fun i _ => n - (intOf i).toNat)
  case atStart => exact ⟨0, by omega, rfl, 0, rfl⟩
  case round =>
    obtain ⟨k, hk, rfl, j, rfl⟩ := hrel
    by_cases hlt : k < n
    · have hkt : k < ts.length := by rw [HN.out]; exact hlt
      obtain ⟨aa, rfl, hca⟩ := ha.five hlt
      obtain ⟨bb, rfl, hcb⟩ := hb.five hlt
      have a0 : w.cell? ((aa.add (k * 5)).add 0) = (tokCells ts[k])[0]? := by obtain ⟨u, h1, h2⟩ := hca 0 (by omega); rw [add_of_add, h2, ← h1, flat_at ts k 0 hkt (by omega)]
      have a1 : w.cell? ((aa.add (k * 5)).add 1) = (tokCells ts[k])[1]? := by obtain ⟨u, h1, h2⟩ := hca 1 (by omega); rw [add_of_add, h2, ← h1, flat_at ts k 1 hkt (by omega)]
      have a2 : w.cell? ((aa.add (k * 5)).add 2) = (tokCells ts[k])[2]? := by obtain ⟨u, h1, h2⟩ := hca 2 (by omega); rw [add_of_add, h2, ← h1, flat_at ts k 2 hkt (by omega)]
      have a3 : w.cell? ((aa.add (k * 5)).add 3) = (tokCells ts[k])[3]? := by obtain ⟨u, h1, h2⟩ := hca 3 (by omega); rw [add_of_add, h2, ← h1, flat_at ts k 3 hkt (by omega)]
      have a4 : w.cell? ((aa.add (k * 5)).add 4) = (tokCells ts[k])[4]? := by obtain ⟨u, h1, h2⟩ := hca 4 (by omega); rw [add_of_add, h2, ← h1, flat_at ts k 4 hkt (by omega)]
      have b0 : w.cell? ((bb.add (k * 5)).add 0) = (tokCells ts[k])[0]? := by obtain ⟨u, h1, h2⟩ := hcb 0 (by omega); rw [add_of_add, h2, ← h1, flat_at ts k 0 hkt (by omega)]
      have b1 : w.cell? ((bb.add (k * 5)).add 1) = (tokCells ts[k])[1]? := by obtain ⟨u, h1, h2⟩ := hcb 1 (by omega); rw [add_of_add, h2, ← h1, flat_at ts k 1 hkt (by omega)]
      have b2 : w.cell? ((bb.add (k * 5)).add 2) = (tokCells ts[k])[2]? := by obtain ⟨u, h1, h2⟩ := hcb 2 (by omega); rw [add_of_add, h2, ← h1, flat_at ts k 2 hkt (by omega)]
      have b3 : w.cell? ((bb.add (k * 5)).add 3) = (tokCells ts[k])[3]? := by obtain ⟨u, h1, h2⟩ := hcb 3 (by omega); rw [add_of_add, h2, ← h1, flat_at ts k 3 hkt (by omega)]
      have b4 : w.cell? ((bb.add (k * 5)).add 4) = (tokCells ts[k])[4]? := by obtain ⟨u, h1, h2⟩ := hcb 4 (by omega); rw [add_of_add, h2, ← h1, flat_at ts k 4 hkt (by omega)]
      clear hca hcb
      generalize ts[k] = t at *
      clear hkt
      obtain ⟨⟨kd, tx, ex, ln⟩, at_, en⟩ := t
      change w.cell? (aa.add (k * 5)) = some (.int .i64 kd) at a0
      change w.cell? ⟨(aa.add (k * 5)).block, (aa.add (k * 5)).off + 1, none⟩ = some (.string (strB tx)) at a1
      change w.cell? ⟨(aa.add (k * 5)).block, (aa.add (k * 5)).off + 2, none⟩ = some (.string (strB ex)) at a2
      change w.cell? ⟨(aa.add (k * 5)).block, (aa.add (k * 5)).off + 3, none⟩ = some (.int .i64 at_) at a3
      change w.cell? ⟨(aa.add (k * 5)).block, (aa.add (k * 5)).off + 4, none⟩ = some (.int .i64 en) at a4
      change w.cell? (bb.add (k * 5)) = some (.int .i64 kd) at b0
      change w.cell? ⟨(bb.add (k * 5)).block, (bb.add (k * 5)).off + 1, none⟩ = some (.string (strB tx)) at b1
      change w.cell? ⟨(bb.add (k * 5)).block, (bb.add (k * 5)).off + 2, none⟩ = some (.string (strB ex)) at b2
      change w.cell? ⟨(bb.add (k * 5)).block, (bb.add (k * 5)).off + 3, none⟩ = some (.int .i64 at_) at b3
      change w.cell? ⟨(bb.add (k * 5)).block, (bb.add (k * 5)).off + 4, none⟩ = some (.int .i64 en) at b4
      generalize strB tx = TX at *
      generalize strB ex = EX at *
      have hla : ∀ m, (loadCells (aa.add (k * 5)) 5).run Try.prog (w.drewN m) = .ok #[.int .i64 kd, .string TX, .string EX, .int .i64 at_, .int .i64 en] (w.drewN m) := fun m =>
        run_loadCells_list (w.drewN m) (aa.add (k * 5)) [.int .i64 kd, .string TX, .string EX, .int .i64 at_, .int .i64 en] (fun j v hj => by
          match j, hj with
          | 0, hj => cases hj; exact a0
          | 1, hj => cases hj; exact a1
          | 2, hj => cases hj; exact a2
          | 3, hj => cases hj; exact a3
          | 4, hj => cases hj; exact a4
          | j + 5, hj => cases hj)
      have hlb : ∀ m, (loadCells (bb.add (k * 5)) 5).run Try.prog (w.drewN m) = .ok #[.int .i64 kd, .string TX, .string EX, .int .i64 at_, .int .i64 en] (w.drewN m) := fun m =>
        run_loadCells_list (w.drewN m) (bb.add (k * 5)) [.int .i64 kd, .string TX, .string EX, .int .i64 at_, .int .i64 en] (fun j v hj => by
          match j, hj with
          | 0, hj => cases hj; exact b0
          | 1, hj => cases hj; exact b1
          | 2, hj => cases hj; exact b2
          | 3, hj => cases hj; exact b3
          | 4, hj => cases hj; exact b4
          | j + 5, hj => cases hj)
      have hc36 : Try.prog.cellsOf 36 = 5 := by kernel_rfl
      have hst := struct36
      have hia := isAgg36
      have hs36 := size36
      have hneq := fun W => neq36 W kd at_ en TX EX
      have e1 : (0 : Int) ≤ k := by omega
      have e2 : (k : Int) < n := by omega
      go_wp2
      go_quiet (fail)
      go_wp2
      go_roundw
      case rel => exact ⟨k + 1, by omega, by go_num, _, rfl⟩
      case measure => simp [intOf]; omega
    · go_wp2
      go_ret
      exact ⟨rfl, _, rfl⟩

end Go.Proofs.Ytaaomjpkgpjegaa
