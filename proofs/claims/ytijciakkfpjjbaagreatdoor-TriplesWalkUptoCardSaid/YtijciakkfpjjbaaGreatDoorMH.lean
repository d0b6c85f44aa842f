/- A triple put together of its values on a way. -/
import Derived.Test.YtijciakkfpjjbaaGreatDoorMG
namespace Go.Proofs.YtijciakkfpjjbaaGreatDoor
open Go Go.RowKit Go.Maps

def Trip.set (t : Trip) (p : Nat) (v : Val) : Trip := if p = 0 then ⟨v, t.p, t.o⟩ else if p = 1 then ⟨t.s, v, t.o⟩ else ⟨t.s, t.p, v⟩
set_option maxRecDepth 100000 in
theorem part_put {w : World} {z : Nat} {T : TypeId} {t : Trip} {ss : Nat → Value} (h : w.heap[z]? = some (.cells (cellsT t ss) T (0, 0))) {p : Nat} (hp : p < 3) (v : Val) (s : Value) :
    (w.setCells z (p * 6) (cellsV v s).toList).heap[z]? = some (.cells (cellsT (t.set p v) (updV ss p s)) T (0, 0)) := by
 obtain ⟨c', h1, h2, h3⟩ := cells_heap (cellsV v s).toList (p * 6) h
 rw [h1]
 have hs : (cellsT t ss).size = 18 := rfl
 have hl : (cellsV v s).toList.length = 6 := rfl
 rw [hs] at h2
 rw [hs, hl] at h3
 have e : c' = cellsT (t.set p v) (updV ss p s) := by
  refine Array.ext_getElem? fun j => ?_
  rw [h3 j]
  by_cases hj : j < 18
  ·rcases (show p = 0 ∨ p = 1 ∨ p = 2 by omega) with rfl | rfl | rfl <;>
   rcases (show j = 0 ∨ j = 1 ∨ j = 2 ∨ j = 3 ∨ j = 4 ∨ j = 5 ∨ j = 6 ∨ j = 7 ∨ j = 8 ∨ j = 9 ∨ j = 10 ∨ j = 11 ∨ j = 12 ∨ j = 13 ∨ j = 14 ∨ j = 15 ∨ j = 16 ∨ j = 17 by omega) with rfl | rfl | rfl | rfl | rfl | rfl | rfl | rfl | rfl | rfl | rfl | rfl | rfl | rfl | rfl | rfl | rfl | rfl <;> kernel_rfl
  ·rw [if_neg (by omega), Array.getElem?_eq_none (by rw [hs]; omega), Array.getElem?_eq_none (by rw [cellsT_size]; omega)]
 rw [e]
/-- The values of a triple on a way, in a row. -/
def wayC3 (w : Way) (t : Trip) (ss : Nat → Value) : Array Value := cellsV (t.get (w.get 0)) (ss (w.get 0)) ++ cellsV (t.get (w.get 1)) (ss (w.get 1)) ++ cellsV (t.get (w.get 2)) (ss (w.get 2))
theorem wayC3_at (w : Way) (t : Trip) (ss : Nat → Value) {k j : Nat} (hk : k < 3) (hj : j < 6) : (wayC3 w t ss)[k * 6 + j]? = (cellsV (t.get (w.get k)) (ss (w.get k)))[j]? := by
 rcases (show k = 0 ∨ k = 1 ∨ k = 2 by omega) with rfl | rfl | rfl <;> rcases (show j = 0 ∨ j = 1 ∨ j = 2 ∨ j = 3 ∨ j = 4 ∨ j = 5 by omega) with rfl | rfl | rfl | rfl | rfl | rfl <;> kernel_rfl
/-- What is put together of the first k values. -/
def tripK (w : Way) (t : Trip) : Nat → Trip
 | 0 => ⟨valZ, valZ, valZ⟩
 | k + 1 => (tripK w t k).set (w.get k) (t.get (w.get k))
def ssK (w : Way) (ss : Nat → Value) : Nat → Nat → Value
 | 0 => nilS
 | k + 1 => updV (ssK w ss k) (w.get k) (ss (w.get k))
theorem tripK_all (j : Nat) (t : Trip) : tripK (wayN j) t 3 = t := by
 unfold wayN
 split
 ·rfl
 ·split
  ·rfl
  ·split
   ·rfl
   ·split
    ·rfl
    ·split <;> rfl
theorem ssK_all (j : Nat) (t : Trip) (ss : Nat → Value) : cellsT t (ssK (wayN j) ss 3) = cellsT t ss := by
 unfold wayN
 split
 ·rfl
 ·split
  ·rfl
  ·split
   ·rfl
   ·split
    ·rfl
    ·split <;> rfl
theorem st_part {P : Program} {ops : Array Oper} {rest : List Oper} {op : Oper} {a : Act} {w : World} {Q : Exit → Act → World → Prop} (hgd : op.guard = none) (ty : TypeId) (x y : Operand) (ho : op.op = .store ty x y) (z p : Nat) (hp : p < 3) (v : Val) (s : Value) (t : Trip) (ss : Nat → Value) (T : TypeId) (c : Array Value) (hc : cellsV v s = c)
    (hx : a.eval x = .pointer (some ⟨z, p * 6, none⟩)) (hy : a.eval y = .agg c) (hg : w.heap[z]? = some (.cells (cellsT t ss) T (0, 0))) (hi : (P.info? ty).map (·.size) = some c.size) (h1 : c.all (·.oneCell') = true)
    (h : ∀ w', w'.heap[z]? = some (.cells (cellsT (t.set p v) (updV ss p s)) T (0, 0)) → Turn (fun b => b = z) w w' → wpList P ops Q rest (a.put op.dst undef) w') : wpList P ops Q (op :: rest) a w := by
 have hs : c.size = 6 := by rw [← hc]; rfl
 refine wpList_store_mid hgd ty x y ho z (p * 6) c hx hy (fun j hj => ?_) hi h1 (h _ (by rw [← hc]; exact part_put hg hp v s) (turn_cells (S := fun b => b = z) z (.inr rfl) _ _ (Turn.refl _ w)))
 exact ⟨by rw [cell_of_row w z (p * 6 + j) _ T _ hg, Array.getElem?_eq_getElem (by rw [cellsT_size]; omega)]; rfl, frozen_of_row _ _ _ _ _ hg⟩
def TripIs (c : Array Value) (w : World) (e : Ending) (w' : World) : Prop := e = .returned (.agg c) ∧ Below w.heap.size w w'
set_option maxRecDepth 100000 in
set_option maxHeartbeats 8000000 in
theorem triple_any (j : Nat) (hj : j < 6) (t : Trip) (ss : Nat → Value) (h1 : ∀ i, i < 3 → ∃ A cap, ss i = .slice A 0 cap) (w : World) :
    Calls Tryz.prog 16 #[.string (wayT j), .agg (wayC3 (wayN j) t ss)] w (TripIs (cellsT t ss) w) := by
 obtain ⟨uw, HUW⟩ := name_itV (wayC3 (wayN j) t ss)
 have HWC := Lib.hid (fun (k : Nat) (hk : k < 3) (i : Nat) (hi : i < 6) => (show uw[k * 6 + i]? = (cellsV (t.get ((wayN j).get k)) (ss ((wayN j).get k)))[i]? from by rw [← HUW.out]; exact wayC3_at _ t ss hk hi))
 have HUS := Lib.hid (show uw.size = 18 from by rw [← HUW.out]; rfl)
 rw [HUW.out]
 obtain ⟨r, HR⟩ := name18 t ss
 have HRR := Lib.hid (show cellsT (tripK (wayN j) t 3) (ssK (wayN j) ss 3) = r from by rw [tripK_all, ssK_all, HR.out])
 have OR := Lib.hid (show r.all (·.oneCell') = true from by rw [← HR.out]; exact tr_one h1)
 have H1 := Lib.hid h1
 rw [HR.out]
 clear h1 HUW
 obtain ⟨z, Hz⟩ := name_itV w.heap.size
 obtain ⟨w3, HW3⟩ := name_itV (((w.alloc (.cells uw 35)).alloc (.cells #[.int .i64 0, .bool false, .int .i64 0, .string ⟨#[]⟩, .string ⟨#[]⟩, .slice none 0 0, .int .i64 0, .bool false, .int .i64 0, .string ⟨#[]⟩, .string ⟨#[]⟩, .slice none 0 0, .int .i64 0, .bool false, .int .i64 0, .string ⟨#[]⟩, .string ⟨#[]⟩, .slice none 0 0] 41)).alloc (.cells #[.int .i64 0, .bool false, .int .i64 0, .string ⟨#[]⟩, .string ⟨#[]⟩, .slice none 0 0, .int .i64 0, .bool false, .int .i64 0, .string ⟨#[]⟩, .string ⟨#[]⟩, .slice none 0 0, .int .i64 0, .bool false, .int .i64 0, .string ⟨#[]⟩, .string ⟨#[]⟩, .slice none 0 0] 41))
 have HB3 := Lib.hid (show Below w.heap.size w w3 from by rw [← HW3.out]; exact (((Below.refl _ _).alloc (Nat.le_refl _) _).alloc (by simp) _).alloc (by simp; omega) _)
 have HX0 := Lib.hid (show w3.heap[z]? = some (.cells uw 35 (0, 0)) from by rw [← HW3.out, ← Hz.out]; exact alloc3_0 ..)
 have HX1 := Lib.hid (show w3.heap[z + 1]? = some (.cells #[.int .i64 0, .bool false, .int .i64 0, .string ⟨#[]⟩, .string ⟨#[]⟩, .slice none 0 0, .int .i64 0, .bool false, .int .i64 0, .string ⟨#[]⟩, .string ⟨#[]⟩, .slice none 0 0, .int .i64 0, .bool false, .int .i64 0, .string ⟨#[]⟩, .string ⟨#[]⟩, .slice none 0 0] 41 (0, 0)) from by rw [← HW3.out, ← Hz.out]; exact alloc3_1 ..)
 have HX2 := Lib.hid (show w3.heap[z + 2]? = some (.cells (cellsT (tripK (wayN j) t 0) (ssK (wayN j) ss 0)) 41 (0, 0)) from by rw [← HW3.out, ← Hz.out]; exact alloc3_2 ..)
 go_enter Tryz.func16, Tryz.ntmps16
 go_upto_region 2 with fail
 rw [HW3.out, Hz.out]
 clear HW3
 rcases (show j = 0 ∨ j = 1 ∨ j = 2 ∨ j = 3 ∨ j = 4 ∨ j = 5 by omega) with rfl | rfl | rfl | rfl | rfl | rfl
 ·rw [show wayT 0 = ⟨#[115, 112, 111]⟩ from rfl]
  go_wp2_with fail
  go_loopg [6] 3 (fun g s6 wx => ∃ k : Nat, k ≤ 3 ∧ g = 3 - k ∧ s6 = .int .i64 (k : Nat) ∧ Hid (Below w.heap.size w wx ∧ wx.heap[z]? = some (.cells uw 35 (0, 0)) ∧ wx.heap[z + 1]? = some (.cells #[.int .i64 0, .bool false, .int .i64 0, .string ⟨#[]⟩, .string ⟨#[]⟩, .slice none 0 0, .int .i64 0, .bool false, .int .i64 0, .string ⟨#[]⟩, .string ⟨#[]⟩, .slice none 0 0, .int .i64 0, .bool false, .int .i64 0, .string ⟨#[]⟩, .string ⟨#[]⟩, .slice none 0 0] 41 (0, 0)) ∧ wx.heap[z + 2]? = some (.cells (cellsT (tripK (wayN 0) t k) (ssK (wayN 0) ss k)) 41 (0, 0))))
  case atStart => exact ⟨0, by omega, rfl, rfl, Lib.hid ⟨HB3.out, HX0.out, HX1.out, HX2.out⟩⟩
  case round =>
   obtain ⟨k, hk, rfl, rfl, hM⟩ := hrel
   have HM1 := Lib.hid hM.out.1
   have HM2 := Lib.hid hM.out.2.1
   have HM3 := Lib.hid hM.out.2.2.1
   have HM4 := Lib.hid hM.out.2.2.2
   clear hM
   rcases (show k = 0 ∨ k = 1 ∨ k = 2 ∨ k = 3 by omega) with rfl | rfl | rfl | rfl
   ·obtain ⟨A, cap, hs⟩ := H1.out 0 (by omega)
    obtain ⟨uv, Hu⟩ := name6 (t.get 0) (ss 0)
    have IU := Lib.hid (infoV6.trans (congrArg some Hu.size.symm))
    have OU := Lib.hid (show uv.all (·.oneCell') = true from by rw [← Hu.out, hs]; kernel_rfl)
    have HLD := Lib.hid (fun i (hi : i < uv.size) => (show wr.cell? ((⟨z, 0, none⟩ : Addr).add i) = uv[i]? from by
     rw [Addr.add_mid, cell_of_row wr z (0 + i) uw _ _ HM2.out, ← Hu.out]
     exact HWC.out 0 (by omega) i (by rwa [Hu.size] at hi)))
    clear hs
    go_wp2_with (first
     | ((with_reducible refine at_dst (some 22) ?_); refine ld_armA rfl 34 _ rfl rfl uv _ HLD.out Tryz.underlying34 rfl IU.out ?_)
     | ((with_reducible refine at_st 23 ?_); refine st_part rfl 34 _ _ rfl (z + 2) 0 (by omega) (t.get 0) (ss 0) _ _ 41 uv Hu.out rfl rfl HM4.out IU.out OU.out ?_; intro w5 hw5 ht5))
    have HW5 := Lib.hid hw5
    have HT5 := Lib.hid ht5
    clear hw5 ht5
    go_wp2_with fail
    go_roundg (3 - 1)
    case rel => exact ⟨1, by omega, rfl, rfl, Lib.hid ⟨below_turn HM1.out HT5.out (fun b hb => by have hb : b = z + 2 := hb; have h2 : w.heap.size = z := Hz.out; omega), HT5.out.heap HM2.out (fun e => by have e : z = z + 2 := e; omega), HT5.out.heap HM3.out (fun e => by have e : z + 1 = z + 2 := e; omega), HW5.out⟩⟩
    case measure => omega
   ·obtain ⟨A, cap, hs⟩ := H1.out 1 (by omega)
    obtain ⟨uv, Hu⟩ := name6 (t.get 1) (ss 1)
    have IU := Lib.hid (infoV6.trans (congrArg some Hu.size.symm))
    have OU := Lib.hid (show uv.all (·.oneCell') = true from by rw [← Hu.out, hs]; kernel_rfl)
    have HLD := Lib.hid (fun i (hi : i < uv.size) => (show wr.cell? ((⟨z, 6, none⟩ : Addr).add i) = uv[i]? from by
     rw [Addr.add_mid, cell_of_row wr z (6 + i) uw _ _ HM2.out, ← Hu.out]
     exact HWC.out 1 (by omega) i (by rwa [Hu.size] at hi)))
    clear hs
    go_wp2_with (first
     | ((with_reducible refine at_dst (some 28) ?_); refine ld_armA rfl 34 _ rfl rfl uv _ HLD.out Tryz.underlying34 rfl IU.out ?_)
     | ((with_reducible refine at_st 29 ?_); refine st_part rfl 34 _ _ rfl (z + 2) 1 (by omega) (t.get 1) (ss 1) _ _ 41 uv Hu.out rfl rfl HM4.out IU.out OU.out ?_; intro w5 hw5 ht5))
    have HW5 := Lib.hid hw5
    have HT5 := Lib.hid ht5
    clear hw5 ht5
    go_wp2_with fail
    go_roundg (3 - 2)
    case rel => exact ⟨2, by omega, rfl, rfl, Lib.hid ⟨below_turn HM1.out HT5.out (fun b hb => by have hb : b = z + 2 := hb; have h2 : w.heap.size = z := Hz.out; omega), HT5.out.heap HM2.out (fun e => by have e : z = z + 2 := e; omega), HT5.out.heap HM3.out (fun e => by have e : z + 1 = z + 2 := e; omega), HW5.out⟩⟩
    case measure => omega
   ·obtain ⟨A, cap, hs⟩ := H1.out 2 (by omega)
    obtain ⟨uv, Hu⟩ := name6 (t.get 2) (ss 2)
    have IU := Lib.hid (infoV6.trans (congrArg some Hu.size.symm))
    have OU := Lib.hid (show uv.all (·.oneCell') = true from by rw [← Hu.out, hs]; kernel_rfl)
    have HLD := Lib.hid (fun i (hi : i < uv.size) => (show wr.cell? ((⟨z, 12, none⟩ : Addr).add i) = uv[i]? from by
     rw [Addr.add_mid, cell_of_row wr z (12 + i) uw _ _ HM2.out, ← Hu.out]
     exact HWC.out 2 (by omega) i (by rwa [Hu.size] at hi)))
    clear hs
    go_wp2_with (first
     | ((with_reducible refine at_dst (some 16) ?_); refine ld_armA rfl 34 _ rfl rfl uv _ HLD.out Tryz.underlying34 rfl IU.out ?_)
     | ((with_reducible refine at_st 17 ?_); refine st_part rfl 34 _ _ rfl (z + 2) 2 (by omega) (t.get 2) (ss 2) _ _ 41 uv Hu.out rfl rfl HM4.out IU.out OU.out ?_; intro w5 hw5 ht5))
    have HW5 := Lib.hid hw5
    have HT5 := Lib.hid ht5
    clear hw5 ht5
    go_wp2_with fail
    go_roundg (3 - 3)
    case rel => exact ⟨3, by omega, rfl, rfl, Lib.hid ⟨below_turn HM1.out HT5.out (fun b hb => by have hb : b = z + 2 := hb; have h2 : w.heap.size = z := Hz.out; omega), HT5.out.heap HM2.out (fun e => by have e : z = z + 2 := e; omega), HT5.out.heap HM3.out (fun e => by have e : z + 1 = z + 2 := e; omega), HW5.out⟩⟩
    case measure => omega
   ·have HM5 := Lib.hid (show wr.heap[z + 2]? = some (.cells r 41 (0, 0)) from by rw [← HRR.out]; exact HM4.out)
    have IR := Lib.hid (infoTr.trans (congrArg some HR.size.symm))
    have LR := Lib.hid (show r.size = (#[.int .i64 0, .bool false, .int .i64 0, .string ⟨#[]⟩, .string ⟨#[]⟩, .slice none 0 0, .int .i64 0, .bool false, .int .i64 0, .string ⟨#[]⟩, .string ⟨#[]⟩, .slice none 0 0, .int .i64 0, .bool false, .int .i64 0, .string ⟨#[]⟩, .string ⟨#[]⟩, .slice none 0 0] : Array Value).size from by rw [HR.size]; rfl)
    go_wp2_with (first
     | ((with_reducible refine at_dst (some 30) ?_); refine ld_arm rfl 41 _ rfl (z + 2) 0 rfl r _ (range_row HM5.out) Tryz.underlying41 rfl IR.out ?_)
     | ((with_reducible refine at_st 4 ?_); refine st_row rfl 41 _ _ rfl (z + 1) (#[.int .i64 0, .bool false, .int .i64 0, .string ⟨#[]⟩, .string ⟨#[]⟩, .slice none 0 0, .int .i64 0, .bool false, .int .i64 0, .string ⟨#[]⟩, .string ⟨#[]⟩, .slice none 0 0, .int .i64 0, .bool false, .int .i64 0, .string ⟨#[]⟩, .string ⟨#[]⟩, .slice none 0 0]) r 41 rfl rfl HM3.out LR.out IR.out OR.out ?_; intro w5 hw5 ht5))
    have HB5 := Lib.hid (show Below w.heap.size w w5 from below_turn HM1.out ht5 (fun b hb => by have hb : b = z + 1 := hb; have h2 : w.heap.size = z := Hz.out; omega))
    refine bodyPost_ret (v := .agg r) (results_row Tryz.results16 (g := z + 1) rfl hw5 _ Tryz.underlying41 rfl IR.out) rfl ⟨rfl, HB5.out⟩
 ·rw [show wayT 1 = ⟨#[115, 111, 112]⟩ from rfl]
  go_wp2_with fail
  go_loopg [6] 3 (fun g s6 wx => ∃ k : Nat, k ≤ 3 ∧ g = 3 - k ∧ s6 = .int .i64 (k : Nat) ∧ Hid (Below w.heap.size w wx ∧ wx.heap[z]? = some (.cells uw 35 (0, 0)) ∧ wx.heap[z + 1]? = some (.cells #[.int .i64 0, .bool false, .int .i64 0, .string ⟨#[]⟩, .string ⟨#[]⟩, .slice none 0 0, .int .i64 0, .bool false, .int .i64 0, .string ⟨#[]⟩, .string ⟨#[]⟩, .slice none 0 0, .int .i64 0, .bool false, .int .i64 0, .string ⟨#[]⟩, .string ⟨#[]⟩, .slice none 0 0] 41 (0, 0)) ∧ wx.heap[z + 2]? = some (.cells (cellsT (tripK (wayN 1) t k) (ssK (wayN 1) ss k)) 41 (0, 0))))
  case atStart => exact ⟨0, by omega, rfl, rfl, Lib.hid ⟨HB3.out, HX0.out, HX1.out, HX2.out⟩⟩
  case round =>
   obtain ⟨k, hk, rfl, rfl, hM⟩ := hrel
   have HM1 := Lib.hid hM.out.1
   have HM2 := Lib.hid hM.out.2.1
   have HM3 := Lib.hid hM.out.2.2.1
   have HM4 := Lib.hid hM.out.2.2.2
   clear hM
   rcases (show k = 0 ∨ k = 1 ∨ k = 2 ∨ k = 3 by omega) with rfl | rfl | rfl | rfl
   ·obtain ⟨A, cap, hs⟩ := H1.out 0 (by omega)
    obtain ⟨uv, Hu⟩ := name6 (t.get 0) (ss 0)
    have IU := Lib.hid (infoV6.trans (congrArg some Hu.size.symm))
    have OU := Lib.hid (show uv.all (·.oneCell') = true from by rw [← Hu.out, hs]; kernel_rfl)
    have HLD := Lib.hid (fun i (hi : i < uv.size) => (show wr.cell? ((⟨z, 0, none⟩ : Addr).add i) = uv[i]? from by
     rw [Addr.add_mid, cell_of_row wr z (0 + i) uw _ _ HM2.out, ← Hu.out]
     exact HWC.out 0 (by omega) i (by rwa [Hu.size] at hi)))
    clear hs
    go_wp2_with (first
     | ((with_reducible refine at_dst (some 22) ?_); refine ld_armA rfl 34 _ rfl rfl uv _ HLD.out Tryz.underlying34 rfl IU.out ?_)
     | ((with_reducible refine at_st 23 ?_); refine st_part rfl 34 _ _ rfl (z + 2) 0 (by omega) (t.get 0) (ss 0) _ _ 41 uv Hu.out rfl rfl HM4.out IU.out OU.out ?_; intro w5 hw5 ht5))
    have HW5 := Lib.hid hw5
    have HT5 := Lib.hid ht5
    clear hw5 ht5
    go_wp2_with fail
    go_roundg (3 - 1)
    case rel => exact ⟨1, by omega, rfl, rfl, Lib.hid ⟨below_turn HM1.out HT5.out (fun b hb => by have hb : b = z + 2 := hb; have h2 : w.heap.size = z := Hz.out; omega), HT5.out.heap HM2.out (fun e => by have e : z = z + 2 := e; omega), HT5.out.heap HM3.out (fun e => by have e : z + 1 = z + 2 := e; omega), HW5.out⟩⟩
    case measure => omega
   ·obtain ⟨A, cap, hs⟩ := H1.out 2 (by omega)
    obtain ⟨uv, Hu⟩ := name6 (t.get 2) (ss 2)
    have IU := Lib.hid (infoV6.trans (congrArg some Hu.size.symm))
    have OU := Lib.hid (show uv.all (·.oneCell') = true from by rw [← Hu.out, hs]; kernel_rfl)
    have HLD := Lib.hid (fun i (hi : i < uv.size) => (show wr.cell? ((⟨z, 6, none⟩ : Addr).add i) = uv[i]? from by
     rw [Addr.add_mid, cell_of_row wr z (6 + i) uw _ _ HM2.out, ← Hu.out]
     exact HWC.out 1 (by omega) i (by rwa [Hu.size] at hi)))
    clear hs
    go_wp2_with (first
     | ((with_reducible refine at_dst (some 16) ?_); refine ld_armA rfl 34 _ rfl rfl uv _ HLD.out Tryz.underlying34 rfl IU.out ?_)
     | ((with_reducible refine at_st 17 ?_); refine st_part rfl 34 _ _ rfl (z + 2) 2 (by omega) (t.get 2) (ss 2) _ _ 41 uv Hu.out rfl rfl HM4.out IU.out OU.out ?_; intro w5 hw5 ht5))
    have HW5 := Lib.hid hw5
    have HT5 := Lib.hid ht5
    clear hw5 ht5
    go_wp2_with fail
    go_roundg (3 - 2)
    case rel => exact ⟨2, by omega, rfl, rfl, Lib.hid ⟨below_turn HM1.out HT5.out (fun b hb => by have hb : b = z + 2 := hb; have h2 : w.heap.size = z := Hz.out; omega), HT5.out.heap HM2.out (fun e => by have e : z = z + 2 := e; omega), HT5.out.heap HM3.out (fun e => by have e : z + 1 = z + 2 := e; omega), HW5.out⟩⟩
    case measure => omega
   ·obtain ⟨A, cap, hs⟩ := H1.out 1 (by omega)
    obtain ⟨uv, Hu⟩ := name6 (t.get 1) (ss 1)
    have IU := Lib.hid (infoV6.trans (congrArg some Hu.size.symm))
    have OU := Lib.hid (show uv.all (·.oneCell') = true from by rw [← Hu.out, hs]; kernel_rfl)
    have HLD := Lib.hid (fun i (hi : i < uv.size) => (show wr.cell? ((⟨z, 12, none⟩ : Addr).add i) = uv[i]? from by
     rw [Addr.add_mid, cell_of_row wr z (12 + i) uw _ _ HM2.out, ← Hu.out]
     exact HWC.out 2 (by omega) i (by rwa [Hu.size] at hi)))
    clear hs
    go_wp2_with (first
     | ((with_reducible refine at_dst (some 28) ?_); refine ld_armA rfl 34 _ rfl rfl uv _ HLD.out Tryz.underlying34 rfl IU.out ?_)
     | ((with_reducible refine at_st 29 ?_); refine st_part rfl 34 _ _ rfl (z + 2) 1 (by omega) (t.get 1) (ss 1) _ _ 41 uv Hu.out rfl rfl HM4.out IU.out OU.out ?_; intro w5 hw5 ht5))
    have HW5 := Lib.hid hw5
    have HT5 := Lib.hid ht5
    clear hw5 ht5
    go_wp2_with fail
    go_roundg (3 - 3)
    case rel => exact ⟨3, by omega, rfl, rfl, Lib.hid ⟨below_turn HM1.out HT5.out (fun b hb => by have hb : b = z + 2 := hb; have h2 : w.heap.size = z := Hz.out; omega), HT5.out.heap HM2.out (fun e => by have e : z = z + 2 := e; omega), HT5.out.heap HM3.out (fun e => by have e : z + 1 = z + 2 := e; omega), HW5.out⟩⟩
    case measure => omega
   ·have HM5 := Lib.hid (show wr.heap[z + 2]? = some (.cells r 41 (0, 0)) from by rw [← HRR.out]; exact HM4.out)
    have IR := Lib.hid (infoTr.trans (congrArg some HR.size.symm))
    have LR := Lib.hid (show r.size = (#[.int .i64 0, .bool false, .int .i64 0, .string ⟨#[]⟩, .string ⟨#[]⟩, .slice none 0 0, .int .i64 0, .bool false, .int .i64 0, .string ⟨#[]⟩, .string ⟨#[]⟩, .slice none 0 0, .int .i64 0, .bool false, .int .i64 0, .string ⟨#[]⟩, .string ⟨#[]⟩, .slice none 0 0] : Array Value).size from by rw [HR.size]; rfl)
    go_wp2_with (first
     | ((with_reducible refine at_dst (some 30) ?_); refine ld_arm rfl 41 _ rfl (z + 2) 0 rfl r _ (range_row HM5.out) Tryz.underlying41 rfl IR.out ?_)
     | ((with_reducible refine at_st 4 ?_); refine st_row rfl 41 _ _ rfl (z + 1) (#[.int .i64 0, .bool false, .int .i64 0, .string ⟨#[]⟩, .string ⟨#[]⟩, .slice none 0 0, .int .i64 0, .bool false, .int .i64 0, .string ⟨#[]⟩, .string ⟨#[]⟩, .slice none 0 0, .int .i64 0, .bool false, .int .i64 0, .string ⟨#[]⟩, .string ⟨#[]⟩, .slice none 0 0]) r 41 rfl rfl HM3.out LR.out IR.out OR.out ?_; intro w5 hw5 ht5))
    have HB5 := Lib.hid (show Below w.heap.size w w5 from below_turn HM1.out ht5 (fun b hb => by have hb : b = z + 1 := hb; have h2 : w.heap.size = z := Hz.out; omega))
    refine bodyPost_ret (v := .agg r) (results_row Tryz.results16 (g := z + 1) rfl hw5 _ Tryz.underlying41 rfl IR.out) rfl ⟨rfl, HB5.out⟩
 ·rw [show wayT 2 = ⟨#[112, 115, 111]⟩ from rfl]
  go_wp2_with fail
  go_loopg [6] 3 (fun g s6 wx => ∃ k : Nat, k ≤ 3 ∧ g = 3 - k ∧ s6 = .int .i64 (k : Nat) ∧ Hid (Below w.heap.size w wx ∧ wx.heap[z]? = some (.cells uw 35 (0, 0)) ∧ wx.heap[z + 1]? = some (.cells #[.int .i64 0, .bool false, .int .i64 0, .string ⟨#[]⟩, .string ⟨#[]⟩, .slice none 0 0, .int .i64 0, .bool false, .int .i64 0, .string ⟨#[]⟩, .string ⟨#[]⟩, .slice none 0 0, .int .i64 0, .bool false, .int .i64 0, .string ⟨#[]⟩, .string ⟨#[]⟩, .slice none 0 0] 41 (0, 0)) ∧ wx.heap[z + 2]? = some (.cells (cellsT (tripK (wayN 2) t k) (ssK (wayN 2) ss k)) 41 (0, 0))))
  case atStart => exact ⟨0, by omega, rfl, rfl, Lib.hid ⟨HB3.out, HX0.out, HX1.out, HX2.out⟩⟩
  case round =>
   obtain ⟨k, hk, rfl, rfl, hM⟩ := hrel
   have HM1 := Lib.hid hM.out.1
   have HM2 := Lib.hid hM.out.2.1
   have HM3 := Lib.hid hM.out.2.2.1
   have HM4 := Lib.hid hM.out.2.2.2
   clear hM
   rcases (show k = 0 ∨ k = 1 ∨ k = 2 ∨ k = 3 by omega) with rfl | rfl | rfl | rfl
   ·obtain ⟨A, cap, hs⟩ := H1.out 1 (by omega)
    obtain ⟨uv, Hu⟩ := name6 (t.get 1) (ss 1)
    have IU := Lib.hid (infoV6.trans (congrArg some Hu.size.symm))
    have OU := Lib.hid (show uv.all (·.oneCell') = true from by rw [← Hu.out, hs]; kernel_rfl)
    have HLD := Lib.hid (fun i (hi : i < uv.size) => (show wr.cell? ((⟨z, 0, none⟩ : Addr).add i) = uv[i]? from by
     rw [Addr.add_mid, cell_of_row wr z (0 + i) uw _ _ HM2.out, ← Hu.out]
     exact HWC.out 0 (by omega) i (by rwa [Hu.size] at hi)))
    clear hs
    go_wp2_with (first
     | ((with_reducible refine at_dst (some 28) ?_); refine ld_armA rfl 34 _ rfl rfl uv _ HLD.out Tryz.underlying34 rfl IU.out ?_)
     | ((with_reducible refine at_st 29 ?_); refine st_part rfl 34 _ _ rfl (z + 2) 1 (by omega) (t.get 1) (ss 1) _ _ 41 uv Hu.out rfl rfl HM4.out IU.out OU.out ?_; intro w5 hw5 ht5))
    have HW5 := Lib.hid hw5
    have HT5 := Lib.hid ht5
    clear hw5 ht5
    go_wp2_with fail
    go_roundg (3 - 1)
    case rel => exact ⟨1, by omega, rfl, rfl, Lib.hid ⟨below_turn HM1.out HT5.out (fun b hb => by have hb : b = z + 2 := hb; have h2 : w.heap.size = z := Hz.out; omega), HT5.out.heap HM2.out (fun e => by have e : z = z + 2 := e; omega), HT5.out.heap HM3.out (fun e => by have e : z + 1 = z + 2 := e; omega), HW5.out⟩⟩
    case measure => omega
   ·obtain ⟨A, cap, hs⟩ := H1.out 0 (by omega)
    obtain ⟨uv, Hu⟩ := name6 (t.get 0) (ss 0)
    have IU := Lib.hid (infoV6.trans (congrArg some Hu.size.symm))
    have OU := Lib.hid (show uv.all (·.oneCell') = true from by rw [← Hu.out, hs]; kernel_rfl)
    have HLD := Lib.hid (fun i (hi : i < uv.size) => (show wr.cell? ((⟨z, 6, none⟩ : Addr).add i) = uv[i]? from by
     rw [Addr.add_mid, cell_of_row wr z (6 + i) uw _ _ HM2.out, ← Hu.out]
     exact HWC.out 1 (by omega) i (by rwa [Hu.size] at hi)))
    clear hs
    go_wp2_with (first
     | ((with_reducible refine at_dst (some 22) ?_); refine ld_armA rfl 34 _ rfl rfl uv _ HLD.out Tryz.underlying34 rfl IU.out ?_)
     | ((with_reducible refine at_st 23 ?_); refine st_part rfl 34 _ _ rfl (z + 2) 0 (by omega) (t.get 0) (ss 0) _ _ 41 uv Hu.out rfl rfl HM4.out IU.out OU.out ?_; intro w5 hw5 ht5))
    have HW5 := Lib.hid hw5
    have HT5 := Lib.hid ht5
    clear hw5 ht5
    go_wp2_with fail
    go_roundg (3 - 2)
    case rel => exact ⟨2, by omega, rfl, rfl, Lib.hid ⟨below_turn HM1.out HT5.out (fun b hb => by have hb : b = z + 2 := hb; have h2 : w.heap.size = z := Hz.out; omega), HT5.out.heap HM2.out (fun e => by have e : z = z + 2 := e; omega), HT5.out.heap HM3.out (fun e => by have e : z + 1 = z + 2 := e; omega), HW5.out⟩⟩
    case measure => omega
   ·obtain ⟨A, cap, hs⟩ := H1.out 2 (by omega)
    obtain ⟨uv, Hu⟩ := name6 (t.get 2) (ss 2)
    have IU := Lib.hid (infoV6.trans (congrArg some Hu.size.symm))
    have OU := Lib.hid (show uv.all (·.oneCell') = true from by rw [← Hu.out, hs]; kernel_rfl)
    have HLD := Lib.hid (fun i (hi : i < uv.size) => (show wr.cell? ((⟨z, 12, none⟩ : Addr).add i) = uv[i]? from by
     rw [Addr.add_mid, cell_of_row wr z (12 + i) uw _ _ HM2.out, ← Hu.out]
     exact HWC.out 2 (by omega) i (by rwa [Hu.size] at hi)))
    clear hs
    go_wp2_with (first
     | ((with_reducible refine at_dst (some 16) ?_); refine ld_armA rfl 34 _ rfl rfl uv _ HLD.out Tryz.underlying34 rfl IU.out ?_)
     | ((with_reducible refine at_st 17 ?_); refine st_part rfl 34 _ _ rfl (z + 2) 2 (by omega) (t.get 2) (ss 2) _ _ 41 uv Hu.out rfl rfl HM4.out IU.out OU.out ?_; intro w5 hw5 ht5))
    have HW5 := Lib.hid hw5
    have HT5 := Lib.hid ht5
    clear hw5 ht5
    go_wp2_with fail
    go_roundg (3 - 3)
    case rel => exact ⟨3, by omega, rfl, rfl, Lib.hid ⟨below_turn HM1.out HT5.out (fun b hb => by have hb : b = z + 2 := hb; have h2 : w.heap.size = z := Hz.out; omega), HT5.out.heap HM2.out (fun e => by have e : z = z + 2 := e; omega), HT5.out.heap HM3.out (fun e => by have e : z + 1 = z + 2 := e; omega), HW5.out⟩⟩
    case measure => omega
   ·have HM5 := Lib.hid (show wr.heap[z + 2]? = some (.cells r 41 (0, 0)) from by rw [← HRR.out]; exact HM4.out)
    have IR := Lib.hid (infoTr.trans (congrArg some HR.size.symm))
    have LR := Lib.hid (show r.size = (#[.int .i64 0, .bool false, .int .i64 0, .string ⟨#[]⟩, .string ⟨#[]⟩, .slice none 0 0, .int .i64 0, .bool false, .int .i64 0, .string ⟨#[]⟩, .string ⟨#[]⟩, .slice none 0 0, .int .i64 0, .bool false, .int .i64 0, .string ⟨#[]⟩, .string ⟨#[]⟩, .slice none 0 0] : Array Value).size from by rw [HR.size]; rfl)
    go_wp2_with (first
     | ((with_reducible refine at_dst (some 30) ?_); refine ld_arm rfl 41 _ rfl (z + 2) 0 rfl r _ (range_row HM5.out) Tryz.underlying41 rfl IR.out ?_)
     | ((with_reducible refine at_st 4 ?_); refine st_row rfl 41 _ _ rfl (z + 1) (#[.int .i64 0, .bool false, .int .i64 0, .string ⟨#[]⟩, .string ⟨#[]⟩, .slice none 0 0, .int .i64 0, .bool false, .int .i64 0, .string ⟨#[]⟩, .string ⟨#[]⟩, .slice none 0 0, .int .i64 0, .bool false, .int .i64 0, .string ⟨#[]⟩, .string ⟨#[]⟩, .slice none 0 0]) r 41 rfl rfl HM3.out LR.out IR.out OR.out ?_; intro w5 hw5 ht5))
    have HB5 := Lib.hid (show Below w.heap.size w w5 from below_turn HM1.out ht5 (fun b hb => by have hb : b = z + 1 := hb; have h2 : w.heap.size = z := Hz.out; omega))
    refine bodyPost_ret (v := .agg r) (results_row Tryz.results16 (g := z + 1) rfl hw5 _ Tryz.underlying41 rfl IR.out) rfl ⟨rfl, HB5.out⟩
 ·rw [show wayT 3 = ⟨#[112, 111, 115]⟩ from rfl]
  go_wp2_with fail
  go_loopg [6] 3 (fun g s6 wx => ∃ k : Nat, k ≤ 3 ∧ g = 3 - k ∧ s6 = .int .i64 (k : Nat) ∧ Hid (Below w.heap.size w wx ∧ wx.heap[z]? = some (.cells uw 35 (0, 0)) ∧ wx.heap[z + 1]? = some (.cells #[.int .i64 0, .bool false, .int .i64 0, .string ⟨#[]⟩, .string ⟨#[]⟩, .slice none 0 0, .int .i64 0, .bool false, .int .i64 0, .string ⟨#[]⟩, .string ⟨#[]⟩, .slice none 0 0, .int .i64 0, .bool false, .int .i64 0, .string ⟨#[]⟩, .string ⟨#[]⟩, .slice none 0 0] 41 (0, 0)) ∧ wx.heap[z + 2]? = some (.cells (cellsT (tripK (wayN 3) t k) (ssK (wayN 3) ss k)) 41 (0, 0))))
  case atStart => exact ⟨0, by omega, rfl, rfl, Lib.hid ⟨HB3.out, HX0.out, HX1.out, HX2.out⟩⟩
  case round =>
   obtain ⟨k, hk, rfl, rfl, hM⟩ := hrel
   have HM1 := Lib.hid hM.out.1
   have HM2 := Lib.hid hM.out.2.1
   have HM3 := Lib.hid hM.out.2.2.1
   have HM4 := Lib.hid hM.out.2.2.2
   clear hM
   rcases (show k = 0 ∨ k = 1 ∨ k = 2 ∨ k = 3 by omega) with rfl | rfl | rfl | rfl
   ·obtain ⟨A, cap, hs⟩ := H1.out 1 (by omega)
    obtain ⟨uv, Hu⟩ := name6 (t.get 1) (ss 1)
    have IU := Lib.hid (infoV6.trans (congrArg some Hu.size.symm))
    have OU := Lib.hid (show uv.all (·.oneCell') = true from by rw [← Hu.out, hs]; kernel_rfl)
    have HLD := Lib.hid (fun i (hi : i < uv.size) => (show wr.cell? ((⟨z, 0, none⟩ : Addr).add i) = uv[i]? from by
     rw [Addr.add_mid, cell_of_row wr z (0 + i) uw _ _ HM2.out, ← Hu.out]
     exact HWC.out 0 (by omega) i (by rwa [Hu.size] at hi)))
    clear hs
    go_wp2_with (first
     | ((with_reducible refine at_dst (some 28) ?_); refine ld_armA rfl 34 _ rfl rfl uv _ HLD.out Tryz.underlying34 rfl IU.out ?_)
     | ((with_reducible refine at_st 29 ?_); refine st_part rfl 34 _ _ rfl (z + 2) 1 (by omega) (t.get 1) (ss 1) _ _ 41 uv Hu.out rfl rfl HM4.out IU.out OU.out ?_; intro w5 hw5 ht5))
    have HW5 := Lib.hid hw5
    have HT5 := Lib.hid ht5
    clear hw5 ht5
    go_wp2_with fail
    go_roundg (3 - 1)
    case rel => exact ⟨1, by omega, rfl, rfl, Lib.hid ⟨below_turn HM1.out HT5.out (fun b hb => by have hb : b = z + 2 := hb; have h2 : w.heap.size = z := Hz.out; omega), HT5.out.heap HM2.out (fun e => by have e : z = z + 2 := e; omega), HT5.out.heap HM3.out (fun e => by have e : z + 1 = z + 2 := e; omega), HW5.out⟩⟩
    case measure => omega
   ·obtain ⟨A, cap, hs⟩ := H1.out 2 (by omega)
    obtain ⟨uv, Hu⟩ := name6 (t.get 2) (ss 2)
    have IU := Lib.hid (infoV6.trans (congrArg some Hu.size.symm))
    have OU := Lib.hid (show uv.all (·.oneCell') = true from by rw [← Hu.out, hs]; kernel_rfl)
    have HLD := Lib.hid (fun i (hi : i < uv.size) => (show wr.cell? ((⟨z, 6, none⟩ : Addr).add i) = uv[i]? from by
     rw [Addr.add_mid, cell_of_row wr z (6 + i) uw _ _ HM2.out, ← Hu.out]
     exact HWC.out 1 (by omega) i (by rwa [Hu.size] at hi)))
    clear hs
    go_wp2_with (first
     | ((with_reducible refine at_dst (some 16) ?_); refine ld_armA rfl 34 _ rfl rfl uv _ HLD.out Tryz.underlying34 rfl IU.out ?_)
     | ((with_reducible refine at_st 17 ?_); refine st_part rfl 34 _ _ rfl (z + 2) 2 (by omega) (t.get 2) (ss 2) _ _ 41 uv Hu.out rfl rfl HM4.out IU.out OU.out ?_; intro w5 hw5 ht5))
    have HW5 := Lib.hid hw5
    have HT5 := Lib.hid ht5
    clear hw5 ht5
    go_wp2_with fail
    go_roundg (3 - 2)
    case rel => exact ⟨2, by omega, rfl, rfl, Lib.hid ⟨below_turn HM1.out HT5.out (fun b hb => by have hb : b = z + 2 := hb; have h2 : w.heap.size = z := Hz.out; omega), HT5.out.heap HM2.out (fun e => by have e : z = z + 2 := e; omega), HT5.out.heap HM3.out (fun e => by have e : z + 1 = z + 2 := e; omega), HW5.out⟩⟩
    case measure => omega
   ·obtain ⟨A, cap, hs⟩ := H1.out 0 (by omega)
    obtain ⟨uv, Hu⟩ := name6 (t.get 0) (ss 0)
    have IU := Lib.hid (infoV6.trans (congrArg some Hu.size.symm))
    have OU := Lib.hid (show uv.all (·.oneCell') = true from by rw [← Hu.out, hs]; kernel_rfl)
    have HLD := Lib.hid (fun i (hi : i < uv.size) => (show wr.cell? ((⟨z, 12, none⟩ : Addr).add i) = uv[i]? from by
     rw [Addr.add_mid, cell_of_row wr z (12 + i) uw _ _ HM2.out, ← Hu.out]
     exact HWC.out 2 (by omega) i (by rwa [Hu.size] at hi)))
    clear hs
    go_wp2_with (first
     | ((with_reducible refine at_dst (some 22) ?_); refine ld_armA rfl 34 _ rfl rfl uv _ HLD.out Tryz.underlying34 rfl IU.out ?_)
     | ((with_reducible refine at_st 23 ?_); refine st_part rfl 34 _ _ rfl (z + 2) 0 (by omega) (t.get 0) (ss 0) _ _ 41 uv Hu.out rfl rfl HM4.out IU.out OU.out ?_; intro w5 hw5 ht5))
    have HW5 := Lib.hid hw5
    have HT5 := Lib.hid ht5
    clear hw5 ht5
    go_wp2_with fail
    go_roundg (3 - 3)
    case rel => exact ⟨3, by omega, rfl, rfl, Lib.hid ⟨below_turn HM1.out HT5.out (fun b hb => by have hb : b = z + 2 := hb; have h2 : w.heap.size = z := Hz.out; omega), HT5.out.heap HM2.out (fun e => by have e : z = z + 2 := e; omega), HT5.out.heap HM3.out (fun e => by have e : z + 1 = z + 2 := e; omega), HW5.out⟩⟩
    case measure => omega
   ·have HM5 := Lib.hid (show wr.heap[z + 2]? = some (.cells r 41 (0, 0)) from by rw [← HRR.out]; exact HM4.out)
    have IR := Lib.hid (infoTr.trans (congrArg some HR.size.symm))
    have LR := Lib.hid (show r.size = (#[.int .i64 0, .bool false, .int .i64 0, .string ⟨#[]⟩, .string ⟨#[]⟩, .slice none 0 0, .int .i64 0, .bool false, .int .i64 0, .string ⟨#[]⟩, .string ⟨#[]⟩, .slice none 0 0, .int .i64 0, .bool false, .int .i64 0, .string ⟨#[]⟩, .string ⟨#[]⟩, .slice none 0 0] : Array Value).size from by rw [HR.size]; rfl)
    go_wp2_with (first
     | ((with_reducible refine at_dst (some 30) ?_); refine ld_arm rfl 41 _ rfl (z + 2) 0 rfl r _ (range_row HM5.out) Tryz.underlying41 rfl IR.out ?_)
     | ((with_reducible refine at_st 4 ?_); refine st_row rfl 41 _ _ rfl (z + 1) (#[.int .i64 0, .bool false, .int .i64 0, .string ⟨#[]⟩, .string ⟨#[]⟩, .slice none 0 0, .int .i64 0, .bool false, .int .i64 0, .string ⟨#[]⟩, .string ⟨#[]⟩, .slice none 0 0, .int .i64 0, .bool false, .int .i64 0, .string ⟨#[]⟩, .string ⟨#[]⟩, .slice none 0 0]) r 41 rfl rfl HM3.out LR.out IR.out OR.out ?_; intro w5 hw5 ht5))
    have HB5 := Lib.hid (show Below w.heap.size w w5 from below_turn HM1.out ht5 (fun b hb => by have hb : b = z + 1 := hb; have h2 : w.heap.size = z := Hz.out; omega))
    refine bodyPost_ret (v := .agg r) (results_row Tryz.results16 (g := z + 1) rfl hw5 _ Tryz.underlying41 rfl IR.out) rfl ⟨rfl, HB5.out⟩
 ·rw [show wayT 4 = ⟨#[111, 115, 112]⟩ from rfl]
  go_wp2_with fail
  go_loopg [6] 3 (fun g s6 wx => ∃ k : Nat, k ≤ 3 ∧ g = 3 - k ∧ s6 = .int .i64 (k : Nat) ∧ Hid (Below w.heap.size w wx ∧ wx.heap[z]? = some (.cells uw 35 (0, 0)) ∧ wx.heap[z + 1]? = some (.cells #[.int .i64 0, .bool false, .int .i64 0, .string ⟨#[]⟩, .string ⟨#[]⟩, .slice none 0 0, .int .i64 0, .bool false, .int .i64 0, .string ⟨#[]⟩, .string ⟨#[]⟩, .slice none 0 0, .int .i64 0, .bool false, .int .i64 0, .string ⟨#[]⟩, .string ⟨#[]⟩, .slice none 0 0] 41 (0, 0)) ∧ wx.heap[z + 2]? = some (.cells (cellsT (tripK (wayN 4) t k) (ssK (wayN 4) ss k)) 41 (0, 0))))
  case atStart => exact ⟨0, by omega, rfl, rfl, Lib.hid ⟨HB3.out, HX0.out, HX1.out, HX2.out⟩⟩
  case round =>
   obtain ⟨k, hk, rfl, rfl, hM⟩ := hrel
   have HM1 := Lib.hid hM.out.1
   have HM2 := Lib.hid hM.out.2.1
   have HM3 := Lib.hid hM.out.2.2.1
   have HM4 := Lib.hid hM.out.2.2.2
   clear hM
   rcases (show k = 0 ∨ k = 1 ∨ k = 2 ∨ k = 3 by omega) with rfl | rfl | rfl | rfl
   ·obtain ⟨A, cap, hs⟩ := H1.out 2 (by omega)
    obtain ⟨uv, Hu⟩ := name6 (t.get 2) (ss 2)
    have IU := Lib.hid (infoV6.trans (congrArg some Hu.size.symm))
    have OU := Lib.hid (show uv.all (·.oneCell') = true from by rw [← Hu.out, hs]; kernel_rfl)
    have HLD := Lib.hid (fun i (hi : i < uv.size) => (show wr.cell? ((⟨z, 0, none⟩ : Addr).add i) = uv[i]? from by
     rw [Addr.add_mid, cell_of_row wr z (0 + i) uw _ _ HM2.out, ← Hu.out]
     exact HWC.out 0 (by omega) i (by rwa [Hu.size] at hi)))
    clear hs
    go_wp2_with (first
     | ((with_reducible refine at_dst (some 16) ?_); refine ld_armA rfl 34 _ rfl rfl uv _ HLD.out Tryz.underlying34 rfl IU.out ?_)
     | ((with_reducible refine at_st 17 ?_); refine st_part rfl 34 _ _ rfl (z + 2) 2 (by omega) (t.get 2) (ss 2) _ _ 41 uv Hu.out rfl rfl HM4.out IU.out OU.out ?_; intro w5 hw5 ht5))
    have HW5 := Lib.hid hw5
    have HT5 := Lib.hid ht5
    clear hw5 ht5
    go_wp2_with fail
    go_roundg (3 - 1)
    case rel => exact ⟨1, by omega, rfl, rfl, Lib.hid ⟨below_turn HM1.out HT5.out (fun b hb => by have hb : b = z + 2 := hb; have h2 : w.heap.size = z := Hz.out; omega), HT5.out.heap HM2.out (fun e => by have e : z = z + 2 := e; omega), HT5.out.heap HM3.out (fun e => by have e : z + 1 = z + 2 := e; omega), HW5.out⟩⟩
    case measure => omega
   ·obtain ⟨A, cap, hs⟩ := H1.out 0 (by omega)
    obtain ⟨uv, Hu⟩ := name6 (t.get 0) (ss 0)
    have IU := Lib.hid (infoV6.trans (congrArg some Hu.size.symm))
    have OU := Lib.hid (show uv.all (·.oneCell') = true from by rw [← Hu.out, hs]; kernel_rfl)
    have HLD := Lib.hid (fun i (hi : i < uv.size) => (show wr.cell? ((⟨z, 6, none⟩ : Addr).add i) = uv[i]? from by
     rw [Addr.add_mid, cell_of_row wr z (6 + i) uw _ _ HM2.out, ← Hu.out]
     exact HWC.out 1 (by omega) i (by rwa [Hu.size] at hi)))
    clear hs
    go_wp2_with (first
     | ((with_reducible refine at_dst (some 22) ?_); refine ld_armA rfl 34 _ rfl rfl uv _ HLD.out Tryz.underlying34 rfl IU.out ?_)
     | ((with_reducible refine at_st 23 ?_); refine st_part rfl 34 _ _ rfl (z + 2) 0 (by omega) (t.get 0) (ss 0) _ _ 41 uv Hu.out rfl rfl HM4.out IU.out OU.out ?_; intro w5 hw5 ht5))
    have HW5 := Lib.hid hw5
    have HT5 := Lib.hid ht5
    clear hw5 ht5
    go_wp2_with fail
    go_roundg (3 - 2)
    case rel => exact ⟨2, by omega, rfl, rfl, Lib.hid ⟨below_turn HM1.out HT5.out (fun b hb => by have hb : b = z + 2 := hb; have h2 : w.heap.size = z := Hz.out; omega), HT5.out.heap HM2.out (fun e => by have e : z = z + 2 := e; omega), HT5.out.heap HM3.out (fun e => by have e : z + 1 = z + 2 := e; omega), HW5.out⟩⟩
    case measure => omega
   ·obtain ⟨A, cap, hs⟩ := H1.out 1 (by omega)
    obtain ⟨uv, Hu⟩ := name6 (t.get 1) (ss 1)
    have IU := Lib.hid (infoV6.trans (congrArg some Hu.size.symm))
    have OU := Lib.hid (show uv.all (·.oneCell') = true from by rw [← Hu.out, hs]; kernel_rfl)
    have HLD := Lib.hid (fun i (hi : i < uv.size) => (show wr.cell? ((⟨z, 12, none⟩ : Addr).add i) = uv[i]? from by
     rw [Addr.add_mid, cell_of_row wr z (12 + i) uw _ _ HM2.out, ← Hu.out]
     exact HWC.out 2 (by omega) i (by rwa [Hu.size] at hi)))
    clear hs
    go_wp2_with (first
     | ((with_reducible refine at_dst (some 28) ?_); refine ld_armA rfl 34 _ rfl rfl uv _ HLD.out Tryz.underlying34 rfl IU.out ?_)
     | ((with_reducible refine at_st 29 ?_); refine st_part rfl 34 _ _ rfl (z + 2) 1 (by omega) (t.get 1) (ss 1) _ _ 41 uv Hu.out rfl rfl HM4.out IU.out OU.out ?_; intro w5 hw5 ht5))
    have HW5 := Lib.hid hw5
    have HT5 := Lib.hid ht5
    clear hw5 ht5
    go_wp2_with fail
    go_roundg (3 - 3)
    case rel => exact ⟨3, by omega, rfl, rfl, Lib.hid ⟨below_turn HM1.out HT5.out (fun b hb => by have hb : b = z + 2 := hb; have h2 : w.heap.size = z := Hz.out; omega), HT5.out.heap HM2.out (fun e => by have e : z = z + 2 := e; omega), HT5.out.heap HM3.out (fun e => by have e : z + 1 = z + 2 := e; omega), HW5.out⟩⟩
    case measure => omega
   ·have HM5 := Lib.hid (show wr.heap[z + 2]? = some (.cells r 41 (0, 0)) from by rw [← HRR.out]; exact HM4.out)
    have IR := Lib.hid (infoTr.trans (congrArg some HR.size.symm))
    have LR := Lib.hid (show r.size = (#[.int .i64 0, .bool false, .int .i64 0, .string ⟨#[]⟩, .string ⟨#[]⟩, .slice none 0 0, .int .i64 0, .bool false, .int .i64 0, .string ⟨#[]⟩, .string ⟨#[]⟩, .slice none 0 0, .int .i64 0, .bool false, .int .i64 0, .string ⟨#[]⟩, .string ⟨#[]⟩, .slice none 0 0] : Array Value).size from by rw [HR.size]; rfl)
    go_wp2_with (first
     | ((with_reducible refine at_dst (some 30) ?_); refine ld_arm rfl 41 _ rfl (z + 2) 0 rfl r _ (range_row HM5.out) Tryz.underlying41 rfl IR.out ?_)
     | ((with_reducible refine at_st 4 ?_); refine st_row rfl 41 _ _ rfl (z + 1) (#[.int .i64 0, .bool false, .int .i64 0, .string ⟨#[]⟩, .string ⟨#[]⟩, .slice none 0 0, .int .i64 0, .bool false, .int .i64 0, .string ⟨#[]⟩, .string ⟨#[]⟩, .slice none 0 0, .int .i64 0, .bool false, .int .i64 0, .string ⟨#[]⟩, .string ⟨#[]⟩, .slice none 0 0]) r 41 rfl rfl HM3.out LR.out IR.out OR.out ?_; intro w5 hw5 ht5))
    have HB5 := Lib.hid (show Below w.heap.size w w5 from below_turn HM1.out ht5 (fun b hb => by have hb : b = z + 1 := hb; have h2 : w.heap.size = z := Hz.out; omega))
    refine bodyPost_ret (v := .agg r) (results_row Tryz.results16 (g := z + 1) rfl hw5 _ Tryz.underlying41 rfl IR.out) rfl ⟨rfl, HB5.out⟩
 ·rw [show wayT 5 = ⟨#[111, 112, 115]⟩ from rfl]
  go_wp2_with fail
  go_loopg [6] 3 (fun g s6 wx => ∃ k : Nat, k ≤ 3 ∧ g = 3 - k ∧ s6 = .int .i64 (k : Nat) ∧ Hid (Below w.heap.size w wx ∧ wx.heap[z]? = some (.cells uw 35 (0, 0)) ∧ wx.heap[z + 1]? = some (.cells #[.int .i64 0, .bool false, .int .i64 0, .string ⟨#[]⟩, .string ⟨#[]⟩, .slice none 0 0, .int .i64 0, .bool false, .int .i64 0, .string ⟨#[]⟩, .string ⟨#[]⟩, .slice none 0 0, .int .i64 0, .bool false, .int .i64 0, .string ⟨#[]⟩, .string ⟨#[]⟩, .slice none 0 0] 41 (0, 0)) ∧ wx.heap[z + 2]? = some (.cells (cellsT (tripK (wayN 5) t k) (ssK (wayN 5) ss k)) 41 (0, 0))))
  case atStart => exact ⟨0, by omega, rfl, rfl, Lib.hid ⟨HB3.out, HX0.out, HX1.out, HX2.out⟩⟩
  case round =>
   obtain ⟨k, hk, rfl, rfl, hM⟩ := hrel
   have HM1 := Lib.hid hM.out.1
   have HM2 := Lib.hid hM.out.2.1
   have HM3 := Lib.hid hM.out.2.2.1
   have HM4 := Lib.hid hM.out.2.2.2
   clear hM
   rcases (show k = 0 ∨ k = 1 ∨ k = 2 ∨ k = 3 by omega) with rfl | rfl | rfl | rfl
   ·obtain ⟨A, cap, hs⟩ := H1.out 2 (by omega)
    obtain ⟨uv, Hu⟩ := name6 (t.get 2) (ss 2)
    have IU := Lib.hid (infoV6.trans (congrArg some Hu.size.symm))
    have OU := Lib.hid (show uv.all (·.oneCell') = true from by rw [← Hu.out, hs]; kernel_rfl)
    have HLD := Lib.hid (fun i (hi : i < uv.size) => (show wr.cell? ((⟨z, 0, none⟩ : Addr).add i) = uv[i]? from by
     rw [Addr.add_mid, cell_of_row wr z (0 + i) uw _ _ HM2.out, ← Hu.out]
     exact HWC.out 0 (by omega) i (by rwa [Hu.size] at hi)))
    clear hs
    go_wp2_with (first
     | ((with_reducible refine at_dst (some 16) ?_); refine ld_armA rfl 34 _ rfl rfl uv _ HLD.out Tryz.underlying34 rfl IU.out ?_)
     | ((with_reducible refine at_st 17 ?_); refine st_part rfl 34 _ _ rfl (z + 2) 2 (by omega) (t.get 2) (ss 2) _ _ 41 uv Hu.out rfl rfl HM4.out IU.out OU.out ?_; intro w5 hw5 ht5))
    have HW5 := Lib.hid hw5
    have HT5 := Lib.hid ht5
    clear hw5 ht5
    go_wp2_with fail
    go_roundg (3 - 1)
    case rel => exact ⟨1, by omega, rfl, rfl, Lib.hid ⟨below_turn HM1.out HT5.out (fun b hb => by have hb : b = z + 2 := hb; have h2 : w.heap.size = z := Hz.out; omega), HT5.out.heap HM2.out (fun e => by have e : z = z + 2 := e; omega), HT5.out.heap HM3.out (fun e => by have e : z + 1 = z + 2 := e; omega), HW5.out⟩⟩
    case measure => omega
   ·obtain ⟨A, cap, hs⟩ := H1.out 1 (by omega)
    obtain ⟨uv, Hu⟩ := name6 (t.get 1) (ss 1)
    have IU := Lib.hid (infoV6.trans (congrArg some Hu.size.symm))
    have OU := Lib.hid (show uv.all (·.oneCell') = true from by rw [← Hu.out, hs]; kernel_rfl)
    have HLD := Lib.hid (fun i (hi : i < uv.size) => (show wr.cell? ((⟨z, 6, none⟩ : Addr).add i) = uv[i]? from by
     rw [Addr.add_mid, cell_of_row wr z (6 + i) uw _ _ HM2.out, ← Hu.out]
     exact HWC.out 1 (by omega) i (by rwa [Hu.size] at hi)))
    clear hs
    go_wp2_with (first
     | ((with_reducible refine at_dst (some 28) ?_); refine ld_armA rfl 34 _ rfl rfl uv _ HLD.out Tryz.underlying34 rfl IU.out ?_)
     | ((with_reducible refine at_st 29 ?_); refine st_part rfl 34 _ _ rfl (z + 2) 1 (by omega) (t.get 1) (ss 1) _ _ 41 uv Hu.out rfl rfl HM4.out IU.out OU.out ?_; intro w5 hw5 ht5))
    have HW5 := Lib.hid hw5
    have HT5 := Lib.hid ht5
    clear hw5 ht5
    go_wp2_with fail
    go_roundg (3 - 2)
    case rel => exact ⟨2, by omega, rfl, rfl, Lib.hid ⟨below_turn HM1.out HT5.out (fun b hb => by have hb : b = z + 2 := hb; have h2 : w.heap.size = z := Hz.out; omega), HT5.out.heap HM2.out (fun e => by have e : z = z + 2 := e; omega), HT5.out.heap HM3.out (fun e => by have e : z + 1 = z + 2 := e; omega), HW5.out⟩⟩
    case measure => omega
   ·obtain ⟨A, cap, hs⟩ := H1.out 0 (by omega)
    obtain ⟨uv, Hu⟩ := name6 (t.get 0) (ss 0)
    have IU := Lib.hid (infoV6.trans (congrArg some Hu.size.symm))
    have OU := Lib.hid (show uv.all (·.oneCell') = true from by rw [← Hu.out, hs]; kernel_rfl)
    have HLD := Lib.hid (fun i (hi : i < uv.size) => (show wr.cell? ((⟨z, 12, none⟩ : Addr).add i) = uv[i]? from by
     rw [Addr.add_mid, cell_of_row wr z (12 + i) uw _ _ HM2.out, ← Hu.out]
     exact HWC.out 2 (by omega) i (by rwa [Hu.size] at hi)))
    clear hs
    go_wp2_with (first
     | ((with_reducible refine at_dst (some 22) ?_); refine ld_armA rfl 34 _ rfl rfl uv _ HLD.out Tryz.underlying34 rfl IU.out ?_)
     | ((with_reducible refine at_st 23 ?_); refine st_part rfl 34 _ _ rfl (z + 2) 0 (by omega) (t.get 0) (ss 0) _ _ 41 uv Hu.out rfl rfl HM4.out IU.out OU.out ?_; intro w5 hw5 ht5))
    have HW5 := Lib.hid hw5
    have HT5 := Lib.hid ht5
    clear hw5 ht5
    go_wp2_with fail
    go_roundg (3 - 3)
    case rel => exact ⟨3, by omega, rfl, rfl, Lib.hid ⟨below_turn HM1.out HT5.out (fun b hb => by have hb : b = z + 2 := hb; have h2 : w.heap.size = z := Hz.out; omega), HT5.out.heap HM2.out (fun e => by have e : z = z + 2 := e; omega), HT5.out.heap HM3.out (fun e => by have e : z + 1 = z + 2 := e; omega), HW5.out⟩⟩
    case measure => omega
   ·have HM5 := Lib.hid (show wr.heap[z + 2]? = some (.cells r 41 (0, 0)) from by rw [← HRR.out]; exact HM4.out)
    have IR := Lib.hid (infoTr.trans (congrArg some HR.size.symm))
    have LR := Lib.hid (show r.size = (#[.int .i64 0, .bool false, .int .i64 0, .string ⟨#[]⟩, .string ⟨#[]⟩, .slice none 0 0, .int .i64 0, .bool false, .int .i64 0, .string ⟨#[]⟩, .string ⟨#[]⟩, .slice none 0 0, .int .i64 0, .bool false, .int .i64 0, .string ⟨#[]⟩, .string ⟨#[]⟩, .slice none 0 0] : Array Value).size from by rw [HR.size]; rfl)
    go_wp2_with (first
     | ((with_reducible refine at_dst (some 30) ?_); refine ld_arm rfl 41 _ rfl (z + 2) 0 rfl r _ (range_row HM5.out) Tryz.underlying41 rfl IR.out ?_)
     | ((with_reducible refine at_st 4 ?_); refine st_row rfl 41 _ _ rfl (z + 1) (#[.int .i64 0, .bool false, .int .i64 0, .string ⟨#[]⟩, .string ⟨#[]⟩, .slice none 0 0, .int .i64 0, .bool false, .int .i64 0, .string ⟨#[]⟩, .string ⟨#[]⟩, .slice none 0 0, .int .i64 0, .bool false, .int .i64 0, .string ⟨#[]⟩, .string ⟨#[]⟩, .slice none 0 0]) r 41 rfl rfl HM3.out LR.out IR.out OR.out ?_; intro w5 hw5 ht5))
    have HB5 := Lib.hid (show Below w.heap.size w w5 from below_turn HM1.out ht5 (fun b hb => by have hb : b = z + 1 := hb; have h2 : w.heap.size = z := Hz.out; omega))
    refine bodyPost_ret (v := .agg r) (results_row Tryz.results16 (g := z + 1) rfl hw5 _ Tryz.underlying41 rfl IR.out) rfl ⟨rfl, HB5.out⟩
end Go.Proofs.YtijciakkfpjjbaaGreatDoor
