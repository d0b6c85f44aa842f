/- Walk of mark of package lex. -/
import Derived.Test.YtaaomjpkgpjegaaShelf
import Derived.Test.YtaaomjpkgpjegaaA3
import Derived.Lib.IndexBytes
namespace Go.Proofs.Ytaaomjpkgpjegaa
open Go.RowKit

theorem drop_byte {s : ByteArray} {p : Nat} (h : p < s.size) : s.data.toList.drop p = s[p] :: s.data.toList.drop (p + 1) :=
  List.drop_eq_getElem_cons (l := s.data.toList) (by simpa using h)

set_option maxHeartbeats 1000000 in
theorem mark_any (b : Nat) (s : ByteArray) (p : Nat) (w : World) (ha : p ≤ s.size) (hb : b < w.heap.size)
   (hl : LexAt w b s p) :
    Calls Try.prog 52 #[.pointer (some ⟨b, 0, none⟩)] w fun e w' => e = .returned (.int .i64 (markLen (s.data.toList.drop p))) ∧ Below w.heap.size w w' := by
  have h0 := hl.1
  have h2 := hl.2
  go_enter Try.func52, Try.ntmps52
  go_wp2
  go_loopw [7] (fun n wr => ∃ k : Nat, k ≤ 7 ∧ n = .int .i64 k ∧ (∀ j, j < k → Lib.hasPrefix (s.data.toList.drop p) (mt j) = false) ∧ ∃ j, wr = (w.alloc (.cells #[.string ⟨#[60, 61]⟩, .string ⟨#[62, 61]⟩, .string ⟨#[60, 62]⟩, .string ⟨#[33, 61]⟩, .string ⟨#[38, 38]⟩, .string ⟨#[124, 124]⟩, .string ⟨#[95, 58]⟩] 9)).drewN j) (fun n _ => 8 - (intOf n).toNat)
  case atStart => exact ⟨0, by omega, rfl, fun j hj => absurd hj (Nat.not_lt_zero _), 0, rfl⟩
  case round =>
    obtain ⟨k, hk, rfl, hno, j, rfl⟩ := hrel
    have hkc : k = 7 ∨ (k = 0 ∨ k = 1 ∨ k = 2 ∨ k = 3 ∨ k = 4 ∨ k = 5 ∨ k = 6) := by omega
    clear hk
    have e2 : (0 : Int) ≤ p := by omega
    have e3 : (p : Int) ≤ s.size := by omega
    have HN := Lib.hid hno
    clear hno
    rcases hkc with rfl | hkc
    · by_cases hlt : p < s.size
      · have hd : decide ((p : Int) < s.size) = true := by simp; omega
        have hlt' : (p : Int) < s.size := by omega
        go_wp2
        go_quiet ((go_at_call 27; exact quiet_add_same (Try.strings_IndexByte _ _ _)))
        go_wp2
        · go_ret
          exact ⟨ret_i64 (by rw [markLen_one (drop_byte hlt) HN.out, if_pos (by assumption)]; rfl), below_drewN (below_drewN ((Below.refl _ _).alloc (Nat.le_refl _) _) _) _⟩
        · have hx : Lib.indexByte markOnes s[p] < 0 := by assumption
          go_ret
          exact ⟨ret_i64 (by rw [markLen_one (drop_byte hlt) HN.out, if_neg (by omega)]; rfl), below_drewN (below_drewN ((Below.refl _ _).alloc (Nat.le_refl _) _) _) _⟩
      · have hd : decide ((p : Int) < s.size) = false := by simp; omega
        go_wp2
        go_quiet (fail)
        go_wp2
        go_ret
        exact ⟨ret_i64 (by rw [List.drop_of_length_le (by simp; omega), markLen_nil]; rfl), below_drewN (below_drewN ((Below.refl _ _).alloc (Nat.le_refl _) _) _) _⟩
    rcases hkc with rfl | rfl | rfl | rfl | rfl | rfl | rfl
    · go_wp2
      go_quiet ((go_at_call 54; exact quiet_add_same (Try.strings_HasPrefix _ _ _)))
      go_wp2
      · have hx : Lib.hasPrefix (s.extract p s.size).data.toList (mt 0) = true := by assumption
        rw [Lib.extract_to_end] at hx
        go_ret
        exact ⟨ret_i64 (by rw [markLen_two 0 (by omega) hx]; rfl), below_drewN (below_drewN ((Below.refl _ _).alloc (Nat.le_refl _) _) _) _⟩
      · have hx : Lib.hasPrefix (s.extract p s.size).data.toList (mt 0) = false := by assumption
        rw [Lib.extract_to_end] at hx
        go_roundw
        case rel => exact ⟨0 + 1, by omega, by rfl, mt_snoc HN.out hx, _, rfl⟩
        case measure => simp [intOf]
    · go_wp2
      go_quiet ((go_at_call 54; exact quiet_add_same (Try.strings_HasPrefix _ _ _)))
      go_wp2
      · have hx : Lib.hasPrefix (s.extract p s.size).data.toList (mt 1) = true := by assumption
        rw [Lib.extract_to_end] at hx
        go_ret
        exact ⟨ret_i64 (by rw [markLen_two 1 (by omega) hx]; rfl), below_drewN (below_drewN ((Below.refl _ _).alloc (Nat.le_refl _) _) _) _⟩
      · have hx : Lib.hasPrefix (s.extract p s.size).data.toList (mt 1) = false := by assumption
        rw [Lib.extract_to_end] at hx
        go_roundw
        case rel => exact ⟨1 + 1, by omega, by rfl, mt_snoc HN.out hx, _, rfl⟩
        case measure => simp [intOf]
    · go_wp2
      go_quiet ((go_at_call 54; exact quiet_add_same (Try.strings_HasPrefix _ _ _)))
      go_wp2
      · have hx : Lib.hasPrefix (s.extract p s.size).data.toList (mt 2) = true := by assumption
        rw [Lib.extract_to_end] at hx
        go_ret
        exact ⟨ret_i64 (by rw [markLen_two 2 (by omega) hx]; rfl), below_drewN (below_drewN ((Below.refl _ _).alloc (Nat.le_refl _) _) _) _⟩
      · have hx : Lib.hasPrefix (s.extract p s.size).data.toList (mt 2) = false := by assumption
        rw [Lib.extract_to_end] at hx
        go_roundw
        case rel => exact ⟨2 + 1, by omega, by rfl, mt_snoc HN.out hx, _, rfl⟩
        case measure => simp [intOf]
    · go_wp2
      go_quiet ((go_at_call 54; exact quiet_add_same (Try.strings_HasPrefix _ _ _)))
      go_wp2
      · have hx : Lib.hasPrefix (s.extract p s.size).data.toList (mt 3) = true := by assumption
        rw [Lib.extract_to_end] at hx
        go_ret
        exact ⟨ret_i64 (by rw [markLen_two 3 (by omega) hx]; rfl), below_drewN (below_drewN ((Below.refl _ _).alloc (Nat.le_refl _) _) _) _⟩
      · have hx : Lib.hasPrefix (s.extract p s.size).data.toList (mt 3) = false := by assumption
        rw [Lib.extract_to_end] at hx
        go_roundw
        case rel => exact ⟨3 + 1, by omega, by rfl, mt_snoc HN.out hx, _, rfl⟩
        case measure => simp [intOf]
    · go_wp2
      go_quiet ((go_at_call 54; exact quiet_add_same (Try.strings_HasPrefix _ _ _)))
      go_wp2
      · have hx : Lib.hasPrefix (s.extract p s.size).data.toList (mt 4) = true := by assumption
        rw [Lib.extract_to_end] at hx
        go_ret
        exact ⟨ret_i64 (by rw [markLen_two 4 (by omega) hx]; rfl), below_drewN (below_drewN ((Below.refl _ _).alloc (Nat.le_refl _) _) _) _⟩
      · have hx : Lib.hasPrefix (s.extract p s.size).data.toList (mt 4) = false := by assumption
        rw [Lib.extract_to_end] at hx
        go_roundw
        case rel => exact ⟨4 + 1, by omega, by rfl, mt_snoc HN.out hx, _, rfl⟩
        case measure => simp [intOf]
    · go_wp2
      go_quiet ((go_at_call 54; exact quiet_add_same (Try.strings_HasPrefix _ _ _)))
      go_wp2
      · have hx : Lib.hasPrefix (s.extract p s.size).data.toList (mt 5) = true := by assumption
        rw [Lib.extract_to_end] at hx
        go_ret
        exact ⟨ret_i64 (by rw [markLen_two 5 (by omega) hx]; rfl), below_drewN (below_drewN ((Below.refl _ _).alloc (Nat.le_refl _) _) _) _⟩
      · have hx : Lib.hasPrefix (s.extract p s.size).data.toList (mt 5) = false := by assumption
        rw [Lib.extract_to_end] at hx
        go_roundw
        case rel => exact ⟨5 + 1, by omega, by rfl, mt_snoc HN.out hx, _, rfl⟩
        case measure => simp [intOf]
    · go_wp2
      go_quiet ((go_at_call 54; exact quiet_add_same (Try.strings_HasPrefix _ _ _)))
      go_wp2
      · have hx : Lib.hasPrefix (s.extract p s.size).data.toList (mt 6) = true := by assumption
        rw [Lib.extract_to_end] at hx
        go_ret
        exact ⟨ret_i64 (by rw [markLen_two 6 (by omega) hx]; rfl), below_drewN (below_drewN ((Below.refl _ _).alloc (Nat.le_refl _) _) _) _⟩
      · have hx : Lib.hasPrefix (s.extract p s.size).data.toList (mt 6) = false := by assumption
        rw [Lib.extract_to_end] at hx
        go_roundw
        case rel => exact ⟨6 + 1, by omega, by rfl, mt_snoc HN.out hx, _, rfl⟩
        case measure => simp [intOf]

end Go.Proofs.Ytaaomjpkgpjegaa
