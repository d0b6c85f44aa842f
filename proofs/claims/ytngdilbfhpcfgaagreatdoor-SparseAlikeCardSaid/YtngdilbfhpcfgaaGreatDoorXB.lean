/- Walks of small functions of package lex. -/
import Derived.Test.YtngdilbfhpcfgaaGreatDoorProg
import Derived.Test.YtngdilbfhpcfgaaGreatDoorXA
import Derived.WalkKit
import Derived.WalkSpells
import Derived.WalkLawsBesides
import Derived.Deep.QuietTactic
import Derived.BigQuiet
import Derived.Lib.Hide
set_option linter.unusedSimpArgs false
set_option linter.unusedVariables false
/- Walks of the small functions of package lex. -/
namespace Go.Proofs.YtngdilbfhpcfgaaGreatDoor
set_option maxRecDepth 100000
open Go.RowKit

theorem quiet_add {P : Program} {f : FuncId} {args : Array Value} {w : World} {a n : Nat} {v : Value}
    (h : Calls P f args (w.drewN (a + n)) fun e w' => e = .returned v ∧ ∃ m, w' = (w.drewN (a + n)).drewN m) :
    Calls P f args (w.drewN (a + n)) fun e w'' => e = .returned v ∧ ∃ m, w'' = w.drewN (a + m) :=
  h.mono fun _ _ ⟨he, m, hm⟩ => ⟨he, n + m, by rw [hm, World.drewN_drewN, Nat.add_assoc]⟩
theorem quiet_add_same {P : Program} {f : FuncId} {args : Array Value} {w : World} {a n : Nat} {v : Value}
    (h : Calls P f args (w.drewN (a + n)) fun e w' => e = .returned v ∧ w' = w.drewN (a + n)) :
    Calls P f args (w.drewN (a + n)) fun e w'' => e = .returned v ∧ ∃ m, w'' = w.drewN (a + m) :=
  h.mono fun _ _ ⟨he, hm⟩ => ⟨he, n, hm⟩
theorem below_drewN {B : Nat} {a w : World} (h : Below B a w) (n : Nat) : Below B a (w.drewN n) := ⟨h.os, h.tape, h.output, h.size, h.block⟩

theorem ret_bool {a b : Bool} (h : a = b) : Ending.returned (.bool a) = .returned (.bool b) := by rw [h]

set_option maxHeartbeats 400000 in
theorem letter_any (c : Int) (w : World) :
    Calls Tryz.prog 140 #[.int .u8 c] w fun e w' => e = .returned (.bool (letB c)) ∧ w = w' := by
  go_enter Tryz.func140, Tryz.ntmps140
  go_wp2
  all_goals (go_ret; exact ⟨ret_bool (by unfold letB; rw [Bool.eq_iff_iff]; simp; try omega), rfl⟩)

set_option maxHeartbeats 400000 in
theorem digit_any (c : Int) (w : World) :
    Calls Tryz.prog 143 #[.int .u8 c] w fun e w' => e = .returned (.bool (digB c)) ∧ w = w' := by
  go_enter Tryz.func143, Tryz.ntmps143
  go_wp2
  all_goals (go_ret; exact ⟨ret_bool (by unfold digB; rw [Bool.eq_iff_iff]; simp; try omega), rfl⟩)


theorem ret_u8 {a b : Int} (h : a = b) : Ending.returned (.int .u8 a) = .returned (.int .u8 b) := by rw [h]
theorem ret_i64 {a b : Int} (h : a = b) : Ending.returned (.int .i64 a) = .returned (.int .i64 b) := by rw [h]

theorem pk_ge {s : ByteArray} {i : Nat} (h : s.size ≤ i) : pk s.data.toList i = 0 := by
  unfold pk
  rw [List.getD_eq_getElem?_getD, List.getElem?_eq_none (by simpa using h)]
  rfl
theorem pk_lt {s : ByteArray} {i : Nat} (h : i < s.size) : pk s.data.toList i = (s[i].toNat : Int) := by
  unfold pk
  rw [List.getD_eq_getElem?_getD, List.getElem?_eq_getElem (by simpa using h)]
  rfl
set_option maxHeartbeats 400000 in
theorem peek_any (b : Nat) (s : ByteArray) (p : Nat) (n : Nat) (w : World) (hs : s.size ≤ 100000) (hn : n ≤ 300000) (ha : p ≤ s.size)
   (h0 : w.cell? ⟨b, 0, none⟩ = some (.string s)) (h2 : w.cell? ⟨b, 2, none⟩ = some (.int .i64 p)) :
    Calls Tryz.prog 137 #[.pointer (some ⟨b, 0, none⟩), .int .i64 n] w fun e w' => e = .returned (.int .u8 (pk s.data.toList (p + n))) ∧ ∃ k, w' = w.drewN k := by
  by_cases h : p + n < s.size
  · have hd : decide ((s.size : Int) ≤ ↑p + ↑n) = false := by simp; omega
    go_enter Tryz.func137, Tryz.ntmps137
    go_wp2
    go_quiet (fail)
    go_wp2
    have e1 : IntKind.i64.wrap ((p : Int) + n) = p + n := IntWalk.i64_in _ (by omega)
    have e2 : (0 : Int) ≤ p + n := by omega
    have e3 : ((p : Int) + n).toNat = p + n := by omega
    have e4 : ((p : Int) + n) < s.size := by omega
    go_quiet (fail)
    clear e1
    go_wp2
    go_ret
    exact ⟨ret_u8 (pk_lt h).symm, _, World.drewN_drewN _ _ _⟩
  · have hd : decide ((s.size : Int) ≤ ↑p + ↑n) = true := by simp; omega
    have e1 : IntKind.i64.wrap ((p : Int) + n) = p + n := IntWalk.i64_in _ (by omega)
    go_enter Tryz.func137, Tryz.ntmps137
    go_wp2
    go_quiet (fail)
    go_wp2
    go_ret
    exact ⟨ret_u8 (pk_ge (by omega)).symm, _, rfl⟩

end Go.Proofs.YtngdilbfhpcfgaaGreatDoor
/- Walks of digits and word of package lex. -/
namespace Go.Proofs.YtngdilbfhpcfgaaGreatDoor
set_option maxRecDepth 100000
open Go.RowKit

/-- A lexer's first and third cell: its text, its place. -/
def LexAt (w : World) (b : Nat) (s : ByteArray) (p : Nat) : Prop :=
  w.cell? ⟨b, 0, none⟩ = some (.string s) ∧ w.cell? ⟨b, 2, none⟩ = some (.int .i64 p)

theorem peek_at {b : Nat} {s : ByteArray} {p : Nat} {w : World} (hs : s.size ≤ 100000) (ha : p ≤ s.size) (h : LexAt w b s p) (j n : Nat) (z : Int) (hz : z = n) (hn : n ≤ 300000) :
    Calls Tryz.prog 137 #[.pointer (some ⟨b, 0, none⟩), .int .i64 z] (w.drewN j) fun e w' => e = .returned (.int .u8 (pk s.data.toList (p + n))) ∧ ∃ k, w' = w.drewN k := by
  subst hz
  refine (peek_any b s p n (w.drewN j) hs hn ha h.1 h.2).mono ?_
  rintro e w' ⟨rfl, k, rfl⟩
  exact ⟨rfl, j + k, World.drewN_drewN _ _ _⟩

set_option maxHeartbeats 400000 in
theorem digits_any (b : Nat) (s : ByteArray) (p : Nat) (m : Nat) (w : World) (hs : s.size ≤ 100000) (hn : m ≤ 150000) (ha : p ≤ s.size)
   (hl : LexAt w b s p) :
    Calls Tryz.prog 144 #[.pointer (some ⟨b, 0, none⟩), .int .i64 m] w fun e w' => e = .returned (.int .i64 (digLen (s.data.toList.drop (p + m)))) ∧ ∃ k, w' = w.drewN k := by
  go_enter Tryz.func144, Tryz.ntmps144
  go_wp2
  go_loopw [5] (fun n wr => ∃ k : Nat, k ≤ digLen (s.data.toList.drop (p + m)) ∧ n = .int .i64 k ∧ ∃ j, wr = w.drewN j) (fun n _ => s.size - (intOf n).toNat)
  case atStart => exact ⟨0, Nat.zero_le _, rfl, 0, rfl⟩
  case round =>
    obtain ⟨k, hk, rfl, j, rfl⟩ := hrel
    have hle : digLen (s.data.toList.drop (p + m)) ≤ s.size - (p + m) := by
      unfold digLen; have := tw_le digB (s.data.toList.drop (p + m)); simpa using this
    obtain ⟨st1, st2⟩ := tw_step digB rfl (s.data.toList.drop (p + m)) k hk
    rw [pk_drop, Nat.add_assoc] at st1 st2
    have S1 := Lib.hid st1
    have S2 := Lib.hid st2
    clear st1 st2
    go_wp2_with fail
    refine (peek_at hs ha hl j (m + k) _ (by simp) (by omega)).mono ?_
    rintro e w' ⟨rfl, j1, rfl⟩
    go_wp2_with fail
    refine (digit_any _ _).mono ?_
    rintro e w' ⟨rfl, rfl⟩
    cases hb : digB (pk s.data.toList (p + (m + k)))
    · have e1 := Lib.hid (S2.out hb)
      clear hb S1 S2
      go_wp2
      go_ret
      exact ⟨ret_i64 (by rw [e1.out]; rfl), _, rfl⟩
    · have e1 := S1.out hb
      change k + 1 ≤ digLen _ at e1
      clear hb S1 S2
      go_wp2
      go_roundw
      case rel => exact ⟨k + 1, e1, by go_num, _, rfl⟩
      case measure => simp [intOf]; omega

set_option maxHeartbeats 400000 in
theorem word_any (b : Nat) (s : ByteArray) (p : Nat) (m : Nat) (w : World) (hs : s.size ≤ 100000) (hn : m ≤ 150000) (ha : p ≤ s.size)
   (hl : LexAt w b s p) :
    Calls Tryz.prog 141 #[.pointer (some ⟨b, 0, none⟩), .int .i64 m] w fun e w' => e = .returned (.int .i64 (wordLen (s.data.toList.drop (p + m)))) ∧ ∃ k, w' = w.drewN k := by
  have hp0 : pk (s.data.toList.drop (p + m)) 0 = pk s.data.toList (p + m) := by rw [pk_drop]; rfl
  have hd1 : (s.data.toList.drop (p + m)).drop 1 = s.data.toList.drop (p + (m + 1)) := by rw [List.drop_drop]; congr 1
  cases hb : letB (pk s.data.toList (p + m))
  · have HW : Hid (wordLen (s.data.toList.drop (p + m)) = 0) := Lib.hid (by unfold wordLen; rw [hp0, hb]; rfl)
    have HB := Lib.hid hb
    clear hp0 hd1 hb
    go_enter Tryz.func141, Tryz.ntmps141
    go_wp2_with fail
    refine (peek_at hs ha hl 0 m _ (by simp) (by omega)).mono ?_
    rintro e w' ⟨rfl, j1, rfl⟩
    go_wp2_with fail
    refine (letter_any _ _).mono ?_
    rintro e w' ⟨rfl, rfl⟩
    rw [HB.out]
    go_wp2
    go_ret
    exact ⟨ret_i64 (by rw [HW.out]; rfl), _, rfl⟩
  · have HW : Hid (wordLen (s.data.toList.drop (p + m)) = 1 + tw wrdB (s.data.toList.drop (p + (m + 1)))) := Lib.hid (by unfold wordLen; rw [hp0, hb, hd1]; rfl)
    have HB := Lib.hid hb
    clear hp0 hd1 hb
    go_enter Tryz.func141, Tryz.ntmps141
    go_wp2_with fail
    refine (peek_at hs ha hl 0 m _ (by simp) (by omega)).mono ?_
    rintro e w' ⟨rfl, j1, rfl⟩
    go_wp2_with fail
    refine (letter_any _ _).mono ?_
    rintro e w' ⟨rfl, rfl⟩
    rw [HB.out]
    go_wp2_with fail
    refine (peek_at hs ha hl j1 (m + 1) _ (by simp) (by omega)).mono ?_
    rintro e w' ⟨rfl, j2, rfl⟩
    go_wp2
    go_loopw [5, 6] (fun n c wr => ∃ k : Nat, k ≤ tw wrdB (s.data.toList.drop (p + (m + 1))) ∧ n = .int .i64 (k + 1 : Nat) ∧ c = .int .u8 (pk s.data.toList (p + (m + 1) + k)) ∧ ∃ j, wr = w.drewN j) (fun n _ _ => s.size + 1 - (intOf n).toNat)
    case atStart => exact ⟨0, Nat.zero_le _, rfl, rfl, _, rfl⟩
    case round =>
      obtain ⟨k, hk, rfl, rfl, j, rfl⟩ := hrel
      have hle : tw wrdB (s.data.toList.drop (p + (m + 1))) ≤ s.size - (p + (m + 1)) := by
        have := tw_le wrdB (s.data.toList.drop (p + (m + 1))); simpa using this
      obtain ⟨st1, st2⟩ := tw_step wrdB rfl (s.data.toList.drop (p + (m + 1))) k hk
      rw [pk_drop] at st1 st2
      have S1 := Lib.hid st1
      have S2 := Lib.hid st2
      clear st1 st2
      go_wp2_with fail
      refine (letter_any _ _).mono ?_
      rintro e w' ⟨rfl, rfl⟩
      cases hb : wrdB (pk s.data.toList (p + (m + 1) + k))
      · have e1 := Lib.hid (S2.out hb)
        have hb1 : letB (pk s.data.toList (p + (m + 1) + k)) = false := by unfold wrdB at hb; simp at hb; exact hb.1.1
        have hb2 : digB (pk s.data.toList (p + (m + 1) + k)) = false := by unfold wrdB at hb; simp at hb; exact hb.1.2
        have hb3 : (pk s.data.toList (p + (m + 1) + k) == 95) = false := by unfold wrdB at hb; simp at hb; simpa using hb.2
        have B2 := Lib.hid hb2
        clear hb S1 S2 hb2
        rw [hb1]
        clear hb1
        go_wp2_with fail
        refine (digit_any _ _).mono ?_
        rintro e w' ⟨rfl, rfl⟩
        rw [B2.out]
        go_wp2
        go_ret
        exact ⟨ret_i64 (by rw [HW.out, ← e1.out]; push_cast; omega), _, rfl⟩
      · have e1 := S1.out hb
        clear S1 S2
        cases hb1 : letB (pk s.data.toList (p + (m + 1) + k))
        · have B1 := Lib.hid hb1
          clear hb1
          go_wp2_with fail
          refine (digit_any _ _).mono ?_
          rintro e w' ⟨rfl, rfl⟩
          cases hb2 : digB (pk s.data.toList (p + (m + 1) + k))
          · have hb3 : (pk s.data.toList (p + (m + 1) + k) == 95) = true := by
              unfold wrdB at hb; rw [B1.out, hb2] at hb; simpa using hb
            have B2 := Lib.hid hb2
            clear hb2 hb
            go_wp2_with fail
            refine (peek_at hs ha hl j (m + 1 + (k + 1)) _ (by push_cast; omega) (by omega)).mono ?_
            rintro e w' ⟨rfl, j3, rfl⟩
            go_wp2
            go_roundw
            case rel => exact ⟨k + 1, e1, by go_num, by rw [show p + (m + 1) + (k + 1) = p + (m + 1 + (k + 1)) from by omega], _, rfl⟩
            case measure => simp [intOf]; omega
          · have B2 := Lib.hid hb2
            clear hb2 hb
            go_wp2_with fail
            refine (peek_at hs ha hl j (m + 1 + (k + 1)) _ (by push_cast; omega) (by omega)).mono ?_
            rintro e w' ⟨rfl, j3, rfl⟩
            go_wp2
            go_roundw
            case rel => exact ⟨k + 1, e1, by go_num, by rw [show p + (m + 1) + (k + 1) = p + (m + 1 + (k + 1)) from by omega], _, rfl⟩
            case measure => simp [intOf]; omega
        · have B1 := Lib.hid hb1
          clear hb1 hb
          go_wp2_with fail
          refine (peek_at hs ha hl j (m + 1 + (k + 1)) _ (by push_cast; omega) (by omega)).mono ?_
          rintro e w' ⟨rfl, j3, rfl⟩
          go_wp2
          go_roundw
          case rel => exact ⟨k + 1, e1, by go_num, by rw [show p + (m + 1) + (k + 1) = p + (m + 1 + (k + 1)) from by omega], _, rfl⟩
          case measure => simp [intOf]; omega

end Go.Proofs.YtngdilbfhpcfgaaGreatDoor
/- Walks of part and iri of package lex. -/
namespace Go.Proofs.YtngdilbfhpcfgaaGreatDoor
set_option maxRecDepth 100000
open Go.RowKit

set_option maxHeartbeats 400000 in
theorem part_any (b : Nat) (s : ByteArray) (p : Nat) (m k : Nat) (w : World) (hs : s.size ≤ 100000) (hm : p + m + k ≤ s.size)
   (hl : LexAt w b s p) :
    Calls Tryz.prog 142 #[.pointer (some ⟨b, 0, none⟩), .int .i64 m, .int .i64 k] w fun e w' => e = .returned (.string (s.extract (p + m) (p + m + k))) ∧ ∃ k, w' = w.drewN k := by
  obtain ⟨h0, h2⟩ := hl
  have e1 : IntKind.i64.wrap ((p : Int) + m) = p + m := IntWalk.i64_in _ (by omega)
  have e5 : IntKind.i64.wrap ((p : Int) + m + k) = p + m + k := IntWalk.i64_in _ (by omega)
  have e2 : (0 : Int) ≤ p + m := by omega
  have e6 : (0 : Int) ≤ p + m + k := by omega
  have e3 : ((p : Int) + m).toNat = p + m := by omega
  have e7 : ((p : Int) + m + k).toNat = p + m + k := by omega
  have e4 : ((p : Int) + m) ≤ p + m + k := by omega
  have e8 : ((p : Int) + m + k) ≤ s.size := by omega
  go_enter Tryz.func142, Tryz.ntmps142
  go_wp2
  go_quiet (fail)
  go_wp2
  go_ret
  exact ⟨rfl, _, rfl⟩

set_option maxHeartbeats 400000 in
theorem iri_any (b : Nat) (s : ByteArray) (p : Nat) (w : World) (hs : s.size ≤ 100000) (ha : p ≤ s.size)
   (hl : LexAt w b s p) :
    Calls Tryz.prog 194 #[.pointer (some ⟨b, 0, none⟩)] w fun e w' => e = .returned (.int .i64 (iriLen (s.data.toList.drop p))) ∧ ∃ k, w' = w.drewN k := by
  have h0 := hl.1
  have h2 := hl.2
  have HI : Hid (iriLen (s.data.toList.drop p) = iriScan 1 (s.data.toList.drop (p + 1))) := Lib.hid (by unfold iriLen; rw [List.drop_drop])
  go_enter Tryz.func194, Tryz.ntmps194
  go_wp2
  go_loopw [3] (fun n wr => ∃ k : Nat, 1 ≤ k ∧ p + k ≤ s.size + 1 ∧ n = .int .i64 k ∧ Hid (iriLen (s.data.toList.drop p) = iriScan k (s.data.toList.drop (p + k))) ∧ ∃ j, wr = w.drewN j) (fun n _ => s.size + 2 - (intOf n).toNat)
  case atStart => exact ⟨1, Nat.le_refl _, by omega, rfl, HI, 0, rfl⟩
  case round =>
    obtain ⟨k, hk1, hk2, rfl, HK, j, rfl⟩ := hrel
    have e1 : IntKind.i64.wrap ((p : Int) + k) = p + k := IntWalk.i64_in _ (by omega)
    by_cases hlt : p + k < s.size
    · have hd : decide ((p : Int) + k < ↑s.size) = true := by simp; omega
      go_wp2
      go_quiet (fail)
      clear e1 hd
      go_wp2_with fail
      refine (peek_at hs ha hl _ k _ (by simp) (by omega)).mono ?_
      rintro e w' ⟨rfl, j1, rfl⟩
      have hlt' : p + k < s.data.toList.length := by simpa using hlt
      go_wp2
      · go_ret
        exact ⟨ret_i64 (by rw [HK.out, iriScan_end hlt' (by assumption) (by omega)]; push_cast; rfl), _, rfl⟩
      · go_ret
        exact ⟨ret_i64 (by rw [HK.out, iriScan_bad hlt' (by omega) (by unfold iriBad; apply decide_eq_true; omega)]; rfl), _, rfl⟩
      · go_ret
        exact ⟨ret_i64 (by rw [HK.out, iriScan_bad hlt' (by omega) (by unfold iriBad; apply decide_eq_true; omega)]; rfl), _, rfl⟩
      · have hx : ((pk s.data.toList (p + k) ≤ 32 ∨ (pk s.data.toList (p + k) == 60) = true) ∨ (pk s.data.toList (p + k) == 62) = true) ∨ (pk s.data.toList (p + k) == 34) = true := by assumption
        go_ret
        exact ⟨ret_i64 (by rw [HK.out, iriScan_bad hlt' (by omega) (by unfold iriBad; apply decide_eq_true; simp at hx; omega)]; rfl), _, rfl⟩
      · have hx : ((32 < pk s.data.toList (p + k) ∧ (pk s.data.toList (p + k) == 60) = false) ∧ (pk s.data.toList (p + k) == 62) = false) ∧ (pk s.data.toList (p + k) == 34) = false := by assumption
        go_roundw
        case rel => exact ⟨k + 1, by omega, by omega, by go_num, Lib.hid (by rw [HK.out, iriScan_on hlt' (by unfold iriBad; apply decide_eq_false; simp at hx; omega)]; rfl), _, rfl⟩
        case measure => simp [intOf]; omega
      · go_ret
        exact ⟨ret_i64 (by rw [HK.out, iriScan_bad hlt' (by omega) (by unfold iriBad; apply decide_eq_true; omega)]; rfl), _, rfl⟩
    · have hd : decide ((p : Int) + k < ↑s.size) = false := by simp; omega
      go_wp2
      go_quiet (fail)
      clear e1 hd
      go_wp2
      go_ret
      exact ⟨ret_i64 (by rw [HK.out, iriScan_out (by simp; omega)]; rfl), _, World.drewN_drewN _ _ _⟩

end Go.Proofs.YtngdilbfhpcfgaaGreatDoor
