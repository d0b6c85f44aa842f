/- Walks of part and iri of package lex. -/
import Derived.Test.YtaaomjpkgpjegaaA2
namespace Go.Proofs.Ytaaomjpkgpjegaa
open Go.RowKit

set_option maxHeartbeats 400000 in
theorem part_any (b : Nat) (s : ByteArray) (p : Nat) (m k : Nat) (w : World) (hs : s.size ≤ 100000) (hm : p + m + k ≤ s.size)
   (hl : LexAt w b s p) :
    Calls Try.prog 49 #[.pointer (some ⟨b, 0, none⟩), .int .i64 m, .int .i64 k] w fun e w' => e = .returned (.string (s.extract (p + m) (p + m + k))) ∧ ∃ k, w' = w.drewN k := by
  obtain ⟨h0, h2⟩ := hl
  have e1 : IntKind.i64.wrap ((p : Int) + m) = p + m := IntWalk.i64_in _ (by omega)
  have e5 : IntKind.i64.wrap ((p : Int) + m + k) = p + m + k := IntWalk.i64_in _ (by omega)
  have e2 : (0 : Int) ≤ p + m := by omega
  have e6 : (0 : Int) ≤ p + m + k := by omega
  have e3 : ((p : Int) + m).toNat = p + m := by omega
  have e7 : ((p : Int) + m + k).toNat = p + m + k := by omega
  have e4 : ((p : Int) + m) ≤ p + m + k := by omega
  have e8 : ((p : Int) + m + k) ≤ s.size := by omega
  go_enter Try.func49, Try.ntmps49
  go_wp2
  go_quiet (fail)
  go_wp2
  go_ret
  exact ⟨rfl, _, rfl⟩

set_option maxHeartbeats 400000 in
theorem iri_any (b : Nat) (s : ByteArray) (p : Nat) (w : World) (hs : s.size ≤ 100000) (ha : p ≤ s.size)
   (hl : LexAt w b s p) :
    Calls Try.prog 53 #[.pointer (some ⟨b, 0, none⟩)] w fun e w' => e = .returned (.int .i64 (iriLen (s.data.toList.drop p))) ∧ ∃ k, w' = w.drewN k := by
  have h0 := hl.1
  have h2 := hl.2
  have HI : Hid (iriLen (s.data.toList.drop p) = iriScan 1 (s.data.toList.drop (p + 1))) := Lib.hid (by unfold iriLen; rw [List.drop_drop])
  go_enter Try.func53, Try.ntmps53
  go_wp2
  go_loopw [3] (fun n wr => ∃ k : Nat, 1 ≤ k ∧ p + k ≤ s.size + 1 ∧ n = .int .i64 k ∧ Hid (iriLen (s.data.toList.drop p) = iriScan k (s.data.toList.drop (p + k))) ∧ ∃ j, wr = w.drewN j) (fun n _ => s.size + 2 - (intOf n).toNat)
  case atStart => exact ⟨1, Nat.le_refl _, by omega, rfl, HI, 0, rfl⟩
  case round =>
    obtain ⟨k, hk1, hk2, rfl, HK, j, rfl⟩ := hrel
    have e1 : IntKind.i64.wrap ((p : Int) + k) = p + k := IntWalk.i64_in _ (by omega)
    by_cases hlt : p + k < s.size
    · have hd : decide ((p : Int) + k < ↑s.size) = true := by simp; omega
      go_wp2
      go_quiet (fail)
      clear e1 hd
      go_wp2_with fail
      refine (peek_at hs ha hl _ k _ (by simp) (by omega)).mono ?_
      rintro e w' ⟨rfl, j1, rfl⟩
      have hlt' : p + k < s.data.toList.length := by simpa using hlt
      go_wp2
      · go_ret
        exact ⟨ret_i64 (by rw [HK.out, iriScan_end hlt' (by assumption) (by omega)]; push_cast; rfl), _, rfl⟩
      · go_ret
        exact ⟨ret_i64 (by rw [HK.out, iriScan_bad hlt' (by omega) (by unfold iriBad; apply decide_eq_true; omega)]; rfl), _, rfl⟩
      · go_ret
        exact ⟨ret_i64 (by rw [HK.out, iriScan_bad hlt' (by omega) (by unfold iriBad; apply decide_eq_true; omega)]; rfl), _, rfl⟩
      · have hx : ((pk s.data.toList (p + k) ≤ 32 ∨ (pk s.data.toList (p + k) == 60) = true) ∨ (pk s.data.toList (p + k) == 62) = true) ∨ (pk s.data.toList (p + k) == 34) = true := by assumption
        go_ret
        exact ⟨ret_i64 (by rw [HK.out, iriScan_bad hlt' (by omega) (by unfold iriBad; apply decide_eq_true; simp at hx; omega)]; rfl), _, rfl⟩
      · have hx : ((32 < pk s.data.toList (p + k) ∧ (pk s.data.toList (p + k) == 60) = false) ∧ (pk s.data.toList (p + k) == 62) = false) ∧ (pk s.data.toList (p + k) == 34) = false := by assumption
        go_roundw
        case rel => exact ⟨k + 1, by omega, by omega, by go_num, Lib.hid (by rw [HK.out, iriScan_on hlt' (by unfold iriBad; apply decide_eq_false; simp at hx; omega)]; rfl), _, rfl⟩
        case measure => simp [intOf]; omega
      · go_ret
        exact ⟨ret_i64 (by rw [HK.out, iriScan_bad hlt' (by omega) (by unfold iriBad; apply decide_eq_true; omega)]; rfl), _, rfl⟩
    · have hd : decide ((p : Int) + k < ↑s.size) = false := by simp; omega
      go_wp2
      go_quiet (fail)
      clear e1 hd
      go_wp2
      go_ret
      exact ⟨ret_i64 (by rw [HK.out, iriScan_out (by simp; omega)]; rfl), _, World.drewN_drewN _ _ _⟩

end Go.Proofs.Ytaaomjpkgpjegaa
