/- Walks of the document's own small functions: letters, digits, words, IRIs, blanks. -/
import Derived.Test.YtaaomjpkgpjegaaA1
import Derived.Test.YtaaomjpkgpjegaaB2
namespace Go.Proofs.Ytaaomjpkgpjegaa
open Go.RowKit

set_option maxHeartbeats 400000 in
theorem rletter_any (c : Int) (w : World) :
    Calls Try.prog 35 #[.int .u8 c] w fun e w' => e = .returned (.bool (letB c)) ∧ w = w' := by
  go_enter Try.func35, Try.ntmps35
  go_wp2
  all_goals (go_ret; exact ⟨ret_bool (by unfold letB; rw [Bool.eq_iff_iff]; simp; try omega), rfl⟩)
set_option maxHeartbeats 400000 in
theorem rdigit_any (c : Int) (w : World) :
    Calls Try.prog 36 #[.int .u8 c] w fun e w' => e = .returned (.bool (digB c)) ∧ w = w' := by
  go_enter Try.func36, Try.ntmps36
  go_wp2
  all_goals (go_ret; exact ⟨ret_bool (by unfold digB; rw [Bool.eq_iff_iff]; simp; try omega), rfl⟩)
theorem rletter_is {c : Int} {b : Bool} (h : letB c = b) (w : World) : Calls Try.prog 35 #[.int .u8 c] w fun e w' => e = .returned (.bool b) ∧ w = w' := h ▸ rletter_any c w
theorem rdigit_is {c : Int} {b : Bool} (h : digB c = b) (w : World) : Calls Try.prog 36 #[.int .u8 c] w fun e w' => e = .returned (.bool b) ∧ w = w' := h ▸ rdigit_any c w

theorem pk_here {s : ByteArray} {p q : Nat} (hp : p ≤ q) (hq : q < s.size) : pk (s.data.toList.drop p) (q - p) = (s[q].toNat : Int) := by
  rw [pk_drop, show p + (q - p) = q by omega, pk_lt hq]
theorem drop_len (s : ByteArray) (p : Nat) : (s.data.toList.drop p).length = s.size - p := by
  rw [List.length_drop]
  have : s.data.toList.length = s.size := by simp
  rw [this]
theorem wordLen_tw {r : List UInt8} (h : letB (pk r 0) = true) : wordLen r = tw wrdB r := by
  unfold wordLen
  rw [if_pos h]
  cases r with
  | nil => exact absurd h (by decide)
  | cons c t =>
    have hw : wrdB c.toNat = true := by
      have : letB c.toNat = true := h
      simp [wrdB, this]
    simp only [tw, List.takeWhile_cons, hw, if_true, List.drop_succ_cons, List.drop_zero, List.length_cons]
    omega
theorem wordLen_no {r : List UInt8} (h : letB (pk r 0) = false) : wordLen r = 0 := by
  unfold wordLen
  rw [if_neg (by rw [h]; decide)]

set_option maxHeartbeats 400000 in
theorem rdigits_any (s : ByteArray) (p : Nat) (hs : s.size ≤ 100000) (hp : p ≤ s.size) (w : World) :
    Calls Try.prog 42 #[.string s, .int .i64 p] w fun e w' => e = .returned (.int .i64 ((p + digLen (s.data.toList.drop p) : Nat) : Int)) ∧ w = w' := by
  go_enter Try.func42, Try.ntmps42
  go_wp2
  go_loop [1] (fun i => ∃ q : Nat, p ≤ q ∧ q ≤ s.size ∧ q - p ≤ tw digB (s.data.toList.drop p) ∧ i = .int .i64 q) (fun i => s.size - (intOf i).toNat)
  case atStart => exact ⟨p, by omega, by omega, by omega, rfl⟩
  case round =>
    obtain ⟨q, hpq, hqs, hle, rfl⟩ := hrel
    by_cases hlt : q < s.size
    · have hst := tw_step digB rfl (s.data.toList.drop p) (q - p) hle
      rw [pk_here hpq hlt] at hst
      have HST := Lib.hid hst
      clear hst
      cases hL : digB (s[q].toNat : Int)
      · have HL := Lib.hid hL
        clear hL
        go_wp2_with fail
        refine (rdigit_is HL.out _).mono ?_
        rintro e w' ⟨rfl, rfl⟩
        go_wp2
        go_ret
        exact ⟨ret_i64 (by have := HST.out.2 HL.out; unfold digLen; omega), rfl⟩
      · have HL := Lib.hid hL
        clear hL
        go_wp2_with fail
        refine (rdigit_is HL.out _).mono ?_
        rintro e w' ⟨rfl, rfl⟩
        go_wp2
        go_round
        case rel => exact ⟨q + 1, by omega, by omega, by have := HST.out.1 HL.out; omega, by go_num⟩
        case measure => simp [intOf]; omega
    · go_wp2
      go_ret
      exact ⟨ret_i64 (by have h1 := tw_le digB (s.data.toList.drop p); rw [drop_len] at h1; unfold digLen; omega), rfl⟩

set_option maxHeartbeats 800000 in
theorem rword_any (s : ByteArray) (p : Nat) (hs : s.size ≤ 100000) (hp : p ≤ s.size) (w : World) :
    Calls Try.prog 23 #[.string s, .int .i64 p] w fun e w' => e = .returned (.int .i64 ((p + wordLen (s.data.toList.drop p) : Nat) : Int)) ∧ w = w' := by
  by_cases hps : p < s.size
  · have hpk := pk_here (Nat.le_refl p) hps
    rw [Nat.sub_self] at hpk
    have HPK := Lib.hid hpk
    clear hpk
    cases hL : letB (s[p].toNat : Int)
    · have HL := Lib.hid hL
      clear hL
      go_enter Try.func23, Try.ntmps23
      go_wp2_with fail
      refine (rletter_is HL.out _).mono ?_
      rintro e w' ⟨rfl, rfl⟩
      go_wp2
      go_ret
      exact ⟨ret_i64 (by rw [wordLen_no (by rw [HPK.out]; exact HL.out)]; rfl), rfl⟩
    · have HL := Lib.hid hL
      clear hL
      have t0 : decide (s.size ≤ p) = false := by simp; omega
      have HW := Lib.hid (wordLen_tw (show letB (pk (s.data.toList.drop p) 0) = true by rw [HPK.out]; exact HL.out))
      go_enter Try.func23, Try.ntmps23
      go_wp2_with fail
      refine (rletter_is HL.out _).mono ?_
      rintro e w' ⟨rfl, rfl⟩
      go_wp2
      go_loop [1] (fun i => ∃ q : Nat, p ≤ q ∧ q ≤ s.size ∧ q - p ≤ tw wrdB (s.data.toList.drop p) ∧ i = .int .i64 q) (fun i => s.size - (intOf i).toNat)
      case atStart => exact ⟨p, by omega, by omega, by omega, rfl⟩
      case round =>
        clear HL HPK
        obtain ⟨q, hpq, hqs, hle, rfl⟩ := hrel
        by_cases hlt : q < s.size
        · have hst := tw_step wrdB rfl (s.data.toList.drop p) (q - p) hle
          rw [pk_here hpq hlt] at hst
          have HST := Lib.hid hst
          clear hst
          cases hL : letB (s[q].toNat : Int)
          · have HL := Lib.hid hL
            clear hL
            cases hD : digB (s[q].toNat : Int)
            · have HD := Lib.hid hD
              clear hD
              by_cases h95 : (s[q].toNat : Int) = 95
              · have t1 : ((s[q].toNat : Int) == 95) = true := by rw [h95]; rfl
                have HB := Lib.hid (show wrdB (s[q].toNat : Int) = true by rw [h95]; rfl)
                clear h95
                go_wp2_with fail
                refine (rletter_is HL.out _).mono ?_
                rintro e w' ⟨rfl, rfl⟩
                go_wp2_with fail
                refine (rdigit_is HD.out _).mono ?_
                rintro e w' ⟨rfl, rfl⟩
                go_wp2
                go_round
                case rel => exact ⟨q + 1, by omega, by omega, by have := HST.out.1 HB.out; omega, by go_num⟩
                case measure => simp [intOf]; omega
              · have t1 : ((s[q].toNat : Int) == 95) = false := by simpa using h95
                have HB := Lib.hid (show wrdB (s[q].toNat : Int) = false by unfold wrdB; rw [HL.out, HD.out]; simpa using h95)
                clear h95
                go_wp2_with fail
                refine (rletter_is HL.out _).mono ?_
                rintro e w' ⟨rfl, rfl⟩
                go_wp2_with fail
                refine (rdigit_is HD.out _).mono ?_
                rintro e w' ⟨rfl, rfl⟩
                go_wp2
                go_ret
                exact ⟨ret_i64 (by have := HST.out.2 HB.out; rw [HW.out]; omega), rfl⟩
            · have HD := Lib.hid hD
              clear hD
              have HB := Lib.hid (show wrdB (s[q].toNat : Int) = true by unfold wrdB; rw [HD.out]; simp)
              go_wp2_with fail
              refine (rletter_is HL.out _).mono ?_
              rintro e w' ⟨rfl, rfl⟩
              go_wp2_with fail
              refine (rdigit_is HD.out _).mono ?_
              rintro e w' ⟨rfl, rfl⟩
              go_wp2
              go_round
              case rel => exact ⟨q + 1, by omega, by omega, by have := HST.out.1 HB.out; omega, by go_num⟩
              case measure => simp [intOf]; omega
          · have HL := Lib.hid hL
            clear hL
            have HB := Lib.hid (show wrdB (s[q].toNat : Int) = true by unfold wrdB; rw [HL.out]; simp)
            go_wp2_with fail
            refine (rletter_is HL.out _).mono ?_
            rintro e w' ⟨rfl, rfl⟩
            go_wp2
            go_round
            case rel => exact ⟨q + 1, by omega, by omega, by have := HST.out.1 HB.out; omega, by go_num⟩
            case measure => simp [intOf]; omega
        · go_wp2
          go_ret
          exact ⟨ret_i64 (by have h1 := tw_le wrdB (s.data.toList.drop p); rw [drop_len] at h1; rw [HW.out]; omega), rfl⟩
  · have t1 : decide ((s.size : Int) ≤ p) = true := by simp; omega
    go_enter Try.func23, Try.ntmps23
    go_wp2
    go_ret
    exact ⟨ret_i64 (by rw [wordLen_no (by rw [List.drop_of_length_le (by simp; omega)]; rfl)]; rfl), rfl⟩

end Go.Proofs.Ytaaomjpkgpjegaa
