/- Walks of the small functions of package lex. -/
import Derived.Test.YtaaomjpkgpjegaaRows
import Derived.Test.YtaaomjpkgpjegaaA0
import Derived.WalkKit
import Derived.WalkSpells
import Derived.WalkLawsBesides
import Derived.Deep.QuietTactic
import Derived.BigQuiet
import Derived.Lib.Hide
namespace Go.Proofs.Ytaaomjpkgpjegaa
open Go.RowKit

theorem quiet_add {P : Program} {f : FuncId} {args : Array Value} {w : World} {a n : Nat} {v : Value}
    (h : Calls P f args (w.drewN (a + n)) fun e w' => e = .returned v ∧ ∃ m, w' = (w.drewN (a + n)).drewN m) :
    Calls P f args (w.drewN (a + n)) fun e w'' => e = .returned v ∧ ∃ m, w'' = w.drewN (a + m) :=
  h.mono fun _ _ ⟨he, m, hm⟩ => ⟨he, n + m, by rw [hm, World.drewN_drewN, Nat.add_assoc]⟩
theorem quiet_add_same {P : Program} {f : FuncId} {args : Array Value} {w : World} {a n : Nat} {v : Value}
    (h : Calls P f args (w.drewN (a + n)) fun e w' => e = .returned v ∧ w' = w.drewN (a + n)) :
    Calls P f args (w.drewN (a + n)) fun e w'' => e = .returned v ∧ ∃ m, w'' = w.drewN (a + m) :=
  h.mono fun _ _ ⟨he, hm⟩ => ⟨he, n, hm⟩
theorem below_drewN {B : Nat} {a w : World} (h : Below B a w) (n : Nat) : Below B a (w.drewN n) := ⟨h.os, h.tape, h.output, h.size, h.block⟩

theorem ret_bool {a b : Bool} (h : a = b) : Ending.returned (.bool a) = .returned (.bool b) := by rw [h]

set_option maxHeartbeats 400000 in
theorem letter_any (c : Int) (w : World) :
    Calls Try.prog 32 #[.int .u8 c] w fun e w' => e = .returned (.bool (letB c)) ∧ w = w' := by
  go_enter Try.func32, Try.ntmps32
  go_wp2
  all_goals (go_ret; exact ⟨ret_bool (by unfold letB; rw [Bool.eq_iff_iff]; simp; try omega), rfl⟩)

set_option maxHeartbeats 400000 in
theorem digit_any (c : Int) (w : World) :
    Calls Try.prog 34 #[.int .u8 c] w fun e w' => e = .returned (.bool (digB c)) ∧ w = w' := by
  go_enter Try.func34, Try.ntmps34
  go_wp2
  all_goals (go_ret; exact ⟨ret_bool (by unfold digB; rw [Bool.eq_iff_iff]; simp; try omega), rfl⟩)


theorem ret_u8 {a b : Int} (h : a = b) : Ending.returned (.int .u8 a) = .returned (.int .u8 b) := by rw [h]
theorem ret_i64 {a b : Int} (h : a = b) : Ending.returned (.int .i64 a) = .returned (.int .i64 b) := by rw [h]

theorem pk_ge {s : ByteArray} {i : Nat} (h : s.size ≤ i) : pk s.data.toList i = 0 := by
  unfold pk
  rw [List.getD_eq_getElem?_getD, List.getElem?_eq_none (by simpa using h)]
  rfl
theorem pk_lt {s : ByteArray} {i : Nat} (h : i < s.size) : pk s.data.toList i = (s[i].toNat : Int) := by
  unfold pk
  rw [List.getD_eq_getElem?_getD, List.getElem?_eq_getElem (by simpa using h)]
  rfl
set_option maxHeartbeats 400000 in
theorem peek_any (b : Nat) (s : ByteArray) (p : Nat) (n : Nat) (w : World) (hs : s.size ≤ 100000) (hn : n ≤ 300000) (ha : p ≤ s.size)
   (h0 : w.cell? ⟨b, 0, none⟩ = some (.string s)) (h2 : w.cell? ⟨b, 2, none⟩ = some (.int .i64 p)) :
    Calls Try.prog 33 #[.pointer (some ⟨b, 0, none⟩), .int .i64 n] w fun e w' => e = .returned (.int .u8 (pk s.data.toList (p + n))) ∧ ∃ k, w' = w.drewN k := by
  by_cases h : p + n < s.size
  · have hd : decide ((s.size : Int) ≤ ↑p + ↑n) = false := by simp; omega
    go_enter Try.func33, Try.ntmps33
    go_wp2
    go_quiet (fail)
    go_wp2
    have e1 : IntKind.i64.wrap ((p : Int) + n) = p + n := IntWalk.i64_in _ (by omega)
    have e2 : (0 : Int) ≤ p + n := by omega
    have e3 : ((p : Int) + n).toNat = p + n := by omega
    have e4 : ((p : Int) + n) < s.size := by omega
    go_quiet (fail)
    clear e1
    go_wp2
    go_ret
    exact ⟨ret_u8 (pk_lt h).symm, _, World.drewN_drewN _ _ _⟩
  · have hd : decide ((s.size : Int) ≤ ↑p + ↑n) = true := by simp; omega
    have e1 : IntKind.i64.wrap ((p : Int) + n) = p + n := IntWalk.i64_in _ (by omega)
    go_enter Try.func33, Try.ntmps33
    go_wp2
    go_quiet (fail)
    go_wp2
    go_ret
    exact ⟨ret_u8 (pk_ge (by omega)).symm, _, rfl⟩

end Go.Proofs.Ytaaomjpkgpjegaa
