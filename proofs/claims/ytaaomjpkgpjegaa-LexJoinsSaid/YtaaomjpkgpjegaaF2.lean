/- Walk of the law's 'blank'. -/
import Derived.Test.YtaaomjpkgpjegaaF1
import Derived.Test.YtaaomjpkgpjegaaD4
namespace Go.Proofs.Ytaaomjpkgpjegaa
open Go.RowKit

/-- So far on nothing but blanks and remarks has stood. -/
def Past (m : Bool) (L : List UInt8) (k : Nat) : Prop := skip false L = min k L.length + skip m (L.drop k)

theorem drop_byte2 {s : ByteArray} {j : Nat} (h : j < s.size) : s.data.toList.drop j = s[j] :: s.data.toList.drop (j + 1) := by
  have hl : j < s.data.toList.length := by simpa using h
  rw [List.drop_eq_getElem_cons hl]
  rfl
theorem past_start (L : List UInt8) : Past false L 0 := by simp [Past]
theorem past_end {m : Bool} {L : List UInt8} {k : Nat} (h : Past m L k) (hk : L.length ≤ k) : skip false L = L.length := by
  unfold Past at h
  rw [List.drop_of_length_le hk] at h
  rw [h, Nat.min_eq_right hk]; cases m <;> rfl
theorem past_over {m m' : Bool} {L : List UInt8} {k k' : Nat} (h : Past m L k) (hk : L.length ≤ k) (hk' : L.length ≤ k') : Past m' L k' := by
  have := past_end h hk
  unfold Past
  rw [List.drop_of_length_le hk', Nat.min_eq_right hk', this]; cases m' <;> rfl
theorem past_hash {s : ByteArray} {k : Nat} (h : Past false s.data.toList k) (hk : k < s.size) (hc : s[k] = 35) : Past true s.data.toList k := by
  unfold Past at h ⊢
  rw [h, drop_byte2 hk, hc]
  rfl
theorem past_in {s : ByteArray} {k : Nat} (h : Past true s.data.toList k) (hk : k < s.size) (hc : s[k] ≠ 10) : Past true s.data.toList (k + 1) := by
  unfold Past at h ⊢
  rw [h, drop_byte2 hk, skip, if_neg hc]
  have : s.data.toList.length = s.size := by simp
  omega
theorem past_out {s : ByteArray} {k : Nat} (h : Past true s.data.toList k) (hk : k < s.size) (hc : s[k] = 10) : Past false s.data.toList (k + 1) := by
  unfold Past at h ⊢
  rw [h, drop_byte2 hk, skip, if_pos hc]
  have : s.data.toList.length = s.size := by simp
  omega
theorem past_blank {s : ByteArray} {k : Nat} (h : Past false s.data.toList k) (hk : k < s.size) (hc : blankB s[k] = true) : Past false s.data.toList (k + 1) := by
  unfold Past at h ⊢
  rw [h, drop_byte2 hk, skip, if_pos hc]
  have : s.data.toList.length = s.size := by simp
  omega
theorem past_stop {s : ByteArray} {k : Nat} (h : Past false s.data.toList k) (hk : k < s.size) (hc : blankB s[k] = false) (h35 : s[k] ≠ 35) : ¬ skip false s.data.toList = s.data.toList.length := by
  unfold Past at h
  rw [h, drop_byte2 hk, skip, if_neg (by simp [hc]), if_neg h35]
  have : s.data.toList.length = s.size := by simp
  omega
theorem blankB_of {c : UInt8} (h : (c.toNat : Int) = 32 ∨ (c.toNat : Int) = 9 ∨ (c.toNat : Int) = 13 ∨ (c.toNat : Int) = 10) : blankB c = true := by
  rcases h with h | h | h | h
  · rw [u8_of (n := 32) (by omega) h]; rfl
  · rw [u8_of (n := 9) (by omega) h]; rfl
  · rw [u8_of (n := 13) (by omega) h]; rfl
  · rw [u8_of (n := 10) (by omega) h]; rfl
theorem blankB_no {c : UInt8} (h1 : ¬ (c.toNat : Int) = 32) (h2 : ¬ (c.toNat : Int) = 9) (h3 : ¬ (c.toNat : Int) = 13) (h4 : ¬ (c.toNat : Int) = 10) : blankB c = false := by
  unfold blankB
  have a : c ≠ 32 := by rintro rfl; exact h1 rfl
  have b : c ≠ 9 := by rintro rfl; exact h2 rfl
  have d : c ≠ 13 := by rintro rfl; exact h3 rfl
  have e : c ≠ 10 := by rintro rfl; exact h4 rfl
  simp [a, b, d, e]

set_option maxRecDepth 100000 in
set_option maxHeartbeats 2000000 in
theorem blankLaw_any (s : ByteArray) (hs : s.size ≤ 100000) (w : World) :
    Calls Try.prog 18 #[.string s] w fun e w' => e = .returned (.bool (decide (skip false s.data.toList = s.data.toList.length))) ∧ w' = w := by
  have hsl : s.data.toList.length = s.size := by simp
  have HSL := Lib.hid hsl
  clear hsl
  go_enter Try.func18, Try.ntmps18
  go_wp2
  go_loop [3] (fun i => ∃ k : Nat, k ≤ s.size + 1 ∧ i = .int .i64 k ∧ RowKit.Hid (Past false s.data.toList k)) (fun i => s.size + 1 - (intOf i).toNat)
  case atStart => exact ⟨0, Nat.zero_le _, rfl, Lib.hid (past_start _)⟩
  case round =>
    obtain ⟨k, hk, rfl, hp⟩ := hrel
    by_cases hkl : k < s.size
    · by_cases h35 : (s[k].toNat : Int) = 35
      · have hq := Lib.hid (past_hash hp.out hkl (u8_of (n := 35) (by omega) h35))
        clear hp
        go_wp2
        go_loop [3] (fun i => ∃ j : Nat, k ≤ j ∧ j ≤ s.size ∧ i = .int .i64 j ∧ RowKit.Hid (Past true s.data.toList j)) (fun i => s.size - (intOf i).toNat)
        case atStart => exact ⟨k, Nat.le_refl _, by omega, rfl, hq⟩
        case round =>
          obtain ⟨j, hkj, hj, rfl, hp⟩ := hrel
          clear hq h35
          by_cases hjl : j < s.size
          · by_cases h10 : (s[j].toNat : Int) = 10
            · have t1 : ((s[j].toNat : Int) != 10) = false := by rw [h10]; rfl
              have hp2 := Lib.hid (past_out hp.out hjl (u8_of (n := 10) (by omega) h10))
              clear h10 hp
              go_wp2
              go_round
              case rel => exact ⟨j + 1, by omega, by go_num, hp2⟩
              case measure => simp [intOf]; omega
            · have t1 : ((s[j].toNat : Int) != 10) = true := by simpa using h10
              have hp2 := Lib.hid (past_in hp.out hjl (u8_ne (n := 10) (by omega) h10))
              clear h10 hp
              go_wp2
              go_round
              case rel => exact ⟨j + 1, by omega, by omega, by go_num, hp2⟩
              case measure => simp [intOf]; omega
          · have hp2 := Lib.hid (past_over (m' := false) (k' := j + 1) hp.out (by rw [HSL.out]; omega) (by rw [HSL.out]; omega))
            clear hp
            go_wp2
            go_round
            case rel => exact ⟨j + 1, by omega, by go_num, hp2⟩
            case measure => simp [intOf]; omega
      · have n35 := Lib.hid (u8_ne (n := 35) (by omega) h35)
        by_cases h32 : (s[k].toNat : Int) = 32
        · have hp2 := Lib.hid (past_blank hp.out hkl (blankB_of (.inl h32)))
          have t1 : ((s[k].toNat : Int) != 32) = false := by rw [h32]; rfl
          clear h32 hp n35
          go_wp2
          go_round
          case rel => exact ⟨k + 1, by omega, by go_num, hp2⟩
          case measure => simp [intOf]; omega
        · have t1 : ((s[k].toNat : Int) != 32) = true := by simpa using h32
          by_cases h9 : (s[k].toNat : Int) = 9
          · have hp2 := Lib.hid (past_blank hp.out hkl (blankB_of (.inr (.inl h9))))
            have t2 : ((s[k].toNat : Int) != 9) = false := by rw [h9]; rfl
            clear h9 h32 hp n35
            go_wp2
            go_round
            case rel => exact ⟨k + 1, by omega, by go_num, hp2⟩
            case measure => simp [intOf]; omega
          · have t2 : ((s[k].toNat : Int) != 9) = true := by simpa using h9
            by_cases h13 : (s[k].toNat : Int) = 13
            · have hp2 := Lib.hid (past_blank hp.out hkl (blankB_of (.inr (.inr (.inl h13)))))
              have t3 : ((s[k].toNat : Int) != 13) = false := by rw [h13]; rfl
              clear h9 h32 h13 hp n35
              go_wp2
              go_round
              case rel => exact ⟨k + 1, by omega, by go_num, hp2⟩
              case measure => simp [intOf]; omega
            · have t3 : ((s[k].toNat : Int) != 13) = true := by simpa using h13
              by_cases h10 : (s[k].toNat : Int) = 10
              · have hp2 := Lib.hid (past_blank hp.out hkl (blankB_of (.inr (.inr (.inr h10)))))
                have t4 : ((s[k].toNat : Int) != 10) = false := by rw [h10]; rfl
                clear h9 h32 h13 h10 hp n35
                go_wp2
                go_round
                case rel => exact ⟨k + 1, by omega, by go_num, hp2⟩
                case measure => simp [intOf]; omega
              · have hr := Lib.hid (past_stop hp.out hkl (blankB_no h32 h9 h13 h10) n35.out)
                have t4 : ((s[k].toNat : Int) != 10) = true := by simpa using h10
                clear h9 h32 h13 h10 hp n35
                go_wp2
                go_ret
                exact ⟨ret_bool (decide_eq_false hr.out).symm, rfl⟩
    · have hr := Lib.hid (past_end hp.out (by rw [HSL.out]; omega))
      go_wp2
      go_ret
      exact ⟨ret_bool (by rw [hr.out]; simp), rfl⟩

end Go.Proofs.Ytaaomjpkgpjegaa
