/- Walks of digits and word of package lex. -/
import Derived.Test.YtaaomjpkgpjegaaA1
namespace Go.Proofs.Ytaaomjpkgpjegaa
open Go.RowKit

/-- A lexer's first and third cell: its text, its place. -/
def LexAt (w : World) (b : Nat) (s : ByteArray) (p : Nat) : Prop :=
  w.cell? ⟨b, 0, none⟩ = some (.string s) ∧ w.cell? ⟨b, 2, none⟩ = some (.int .i64 p)

theorem peek_at {b : Nat} {s : ByteArray} {p : Nat} {w : World} (hs : s.size ≤ 100000) (ha : p ≤ s.size) (h : LexAt w b s p) (j n : Nat) (z : Int) (hz : z = n) (hn : n ≤ 300000) :
    Calls Try.prog 33 #[.pointer (some ⟨b, 0, none⟩), .int .i64 z] (w.drewN j) fun e w' => e = .returned (.int .u8 (pk s.data.toList (p + n))) ∧ ∃ k, w' = w.drewN k := by
  subst hz
  refine (peek_any b s p n (w.drewN j) hs hn ha h.1 h.2).mono ?_
  rintro e w' ⟨rfl, k, rfl⟩
  exact ⟨rfl, j + k, World.drewN_drewN _ _ _⟩

set_option maxHeartbeats 400000 in
theorem digits_any (b : Nat) (s : ByteArray) (p : Nat) (m : Nat) (w : World) (hs : s.size ≤ 100000) (hn : m ≤ 150000) (ha : p ≤ s.size)
   (hl : LexAt w b s p) :
    Calls Try.prog 50 #[.pointer (some ⟨b, 0, none⟩), .int .i64 m] w fun e w' => e = .returned (.int .i64 (digLen (s.data.toList.drop (p + m)))) ∧ ∃ k, w' = w.drewN k := by
  go_enter Try.func50, Try.ntmps50
  go_wp2
  go_loopw [5] (fun n wr => ∃ k : Nat, k ≤ digLen (s.data.toList.drop (p + m)) ∧ n = .int .i64 k ∧ ∃ j, wr = w.drewN j) (fun n _ => s.size - (intOf n).toNat)
  case atStart => exact ⟨0, Nat.zero_le _, rfl, 0, rfl⟩
  case round =>
    obtain ⟨k, hk, rfl, j, rfl⟩ := hrel
    have hle : digLen (s.data.toList.drop (p + m)) ≤ s.size - (p + m) := by
      unfold digLen; have := tw_le digB (s.data.toList.drop (p + m)); simpa using this
    obtain ⟨st1, st2⟩ := tw_step digB rfl (s.data.toList.drop (p + m)) k hk
    rw [pk_drop, Nat.add_assoc] at st1 st2
    have S1 := Lib.hid st1
    have S2 := Lib.hid st2
    clear st1 st2
    go_wp2_with fail
    refine (peek_at hs ha hl j (m + k) _ (by simp) (by omega)).mono ?_
    rintro e w' ⟨rfl, j1, rfl⟩
    go_wp2_with fail
    refine (digit_any _ _).mono ?_
    rintro e w' ⟨rfl, rfl⟩
    cases hb : digB (pk s.data.toList (p + (m + k)))
    · have e1 := Lib.hid (S2.out hb)
      clear hb S1 S2
      go_wp2
      go_ret
      exact ⟨ret_i64 (by rw [e1.out]; rfl), _, rfl⟩
    · have e1 := S1.out hb
      change k + 1 ≤ digLen _ at e1
      clear hb S1 S2
      go_wp2
      go_roundw
      case rel => exact ⟨k + 1, e1, by go_num, _, rfl⟩
      case measure => simp [intOf]; omega

set_option maxHeartbeats 400000 in
theorem word_any (b : Nat) (s : ByteArray) (p : Nat) (m : Nat) (w : World) (hs : s.size ≤ 100000) (hn : m ≤ 150000) (ha : p ≤ s.size)
   (hl : LexAt w b s p) :
    Calls Try.prog 22 #[.pointer (some ⟨b, 0, none⟩), .int .i64 m] w fun e w' => e = .returned (.int .i64 (wordLen (s.data.toList.drop (p + m)))) ∧ ∃ k, w' = w.drewN k := by
  have hp0 : pk (s.data.toList.drop (p + m)) 0 = pk s.data.toList (p + m) := by rw [pk_drop]; rfl
  have hd1 : (s.data.toList.drop (p + m)).drop 1 = s.data.toList.drop (p + (m + 1)) := by rw [List.drop_drop]; congr 1
  cases hb : letB (pk s.data.toList (p + m))
  · have HW : Hid (wordLen (s.data.toList.drop (p + m)) = 0) := Lib.hid (by unfold wordLen; rw [hp0, hb]; rfl)
    have HB := Lib.hid hb
    clear hp0 hd1 hb
    go_enter Try.func22, Try.ntmps22
    go_wp2_with fail
    refine (peek_at hs ha hl 0 m _ (by simp) (by omega)).mono ?_
    rintro e w' ⟨rfl, j1, rfl⟩
    go_wp2_with fail
    refine (letter_any _ _).mono ?_
    rintro e w' ⟨rfl, rfl⟩
    rw [HB.out]
    go_wp2
    go_ret
    exact ⟨ret_i64 (by rw [HW.out]; rfl), _, rfl⟩
  · have HW : Hid (wordLen (s.data.toList.drop (p + m)) = 1 + tw wrdB (s.data.toList.drop (p + (m + 1)))) := Lib.hid (by unfold wordLen; rw [hp0, hb, hd1]; rfl)
    have HB := Lib.hid hb
    clear hp0 hd1 hb
    go_enter Try.func22, Try.ntmps22
    go_wp2_with fail
    refine (peek_at hs ha hl 0 m _ (by simp) (by omega)).mono ?_
    rintro e w' ⟨rfl, j1, rfl⟩
    go_wp2_with fail
    refine (letter_any _ _).mono ?_
    rintro e w' ⟨rfl, rfl⟩
    rw [HB.out]
    go_wp2_with fail
    refine (peek_at hs ha hl j1 (m + 1) _ (by simp) (by omega)).mono ?_
    rintro e w' ⟨rfl, j2, rfl⟩
    go_wp2
    go_loopw [5, 6] (fun n c wr => ∃ k : Nat, k ≤ tw wrdB (s.data.toList.drop (p + (m + 1))) ∧ n = .int .i64 (k + 1 : Nat) ∧ c = .int .u8 (pk s.data.toList (p + (m + 1) + k)) ∧ ∃ j, wr = w.drewN j) (fun n _ _ => s.size + 1 - (intOf n).toNat)
    case atStart => exact ⟨0, Nat.zero_le _, rfl, rfl, _, rfl⟩
    case round =>
      obtain ⟨k, hk, rfl, rfl, j, rfl⟩ := hrel
      have hle : tw wrdB (s.data.toList.drop (p + (m + 1))) ≤ s.size - (p + (m + 1)) := by
        have := tw_le wrdB (s.data.toList.drop (p + (m + 1))); simpa using this
      obtain ⟨st1, st2⟩ := tw_step wrdB rfl (s.data.toList.drop (p + (m + 1))) k hk
      rw [pk_drop] at st1 st2
      have S1 := Lib.hid st1
      have S2 := Lib.hid st2
      clear st1 st2
      go_wp2_with fail
      refine (letter_any _ _).mono ?_
      rintro e w' ⟨rfl, rfl⟩
      cases hb : wrdB (pk s.data.toList (p + (m + 1) + k))
      · have e1 := Lib.hid (S2.out hb)
        have hb1 : letB (pk s.data.toList (p + (m + 1) + k)) = false := by unfold wrdB at hb; simp at hb; exact hb.1.1
        have hb2 : digB (pk s.data.toList (p + (m + 1) + k)) = false := by unfold wrdB at hb; simp at hb; exact hb.1.2
        have hb3 : (pk s.data.toList (p + (m + 1) + k) == 95) = false := by unfold wrdB at hb; simp at hb; simpa using hb.2
        have B2 := Lib.hid hb2
        clear hb S1 S2 hb2
        rw [hb1]
        clear hb1
        go_wp2_with fail
        refine (digit_any _ _).mono ?_
        rintro e w' ⟨rfl, rfl⟩
        rw [B2.out]
        go_wp2
        go_ret
        exact ⟨ret_i64 (by rw [HW.out, ← e1.out]; push_cast; omega), _, rfl⟩
      · have e1 := S1.out hb
        clear S1 S2
        cases hb1 : letB (pk s.data.toList (p + (m + 1) + k))
        · have B1 := Lib.hid hb1
          clear hb1
          go_wp2_with fail
          refine (digit_any _ _).mono ?_
          rintro e w' ⟨rfl, rfl⟩
          cases hb2 : digB (pk s.data.toList (p + (m + 1) + k))
          · have hb3 : (pk s.data.toList (p + (m + 1) + k) == 95) = true := by
              unfold wrdB at hb; rw [B1.out, hb2] at hb; simpa using hb
            have B2 := Lib.hid hb2
            clear hb2 hb
            go_wp2_with fail
            refine (peek_at hs ha hl j (m + 1 + (k + 1)) _ (by push_cast; omega) (by omega)).mono ?_
            rintro e w' ⟨rfl, j3, rfl⟩
            go_wp2
            go_roundw
            case rel => exact ⟨k + 1, e1, by go_num, by rw [show p + (m + 1) + (k + 1) = p + (m + 1 + (k + 1)) from by omega], _, rfl⟩
            case measure => simp [intOf]; omega
          · have B2 := Lib.hid hb2
            clear hb2 hb
            go_wp2_with fail
            refine (peek_at hs ha hl j (m + 1 + (k + 1)) _ (by push_cast; omega) (by omega)).mono ?_
            rintro e w' ⟨rfl, j3, rfl⟩
            go_wp2
            go_roundw
            case rel => exact ⟨k + 1, e1, by go_num, by rw [show p + (m + 1) + (k + 1) = p + (m + 1 + (k + 1)) from by omega], _, rfl⟩
            case measure => simp [intOf]; omega
        · have B1 := Lib.hid hb1
          clear hb1 hb
          go_wp2_with fail
          refine (peek_at hs ha hl j (m + 1 + (k + 1)) _ (by push_cast; omega) (by omega)).mono ?_
          rintro e w' ⟨rfl, j3, rfl⟩
          go_wp2
          go_roundw
          case rel => exact ⟨k + 1, e1, by go_num, by rw [show p + (m + 1) + (k + 1) = p + (m + 1 + (k + 1)) from by omega], _, rfl⟩
          case measure => simp [intOf]; omega

end Go.Proofs.Ytaaomjpkgpjegaa
