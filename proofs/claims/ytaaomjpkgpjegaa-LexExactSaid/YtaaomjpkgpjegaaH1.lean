/- Walks of the document's own functions on IRIs and blanks. -/
import Derived.Test.YtaaomjpkgpjegaaH0
import Derived.Outline
import Derived.Test.YtaaomjpkgpjegaaA7
namespace Go.Proofs.Ytaaomjpkgpjegaa
open Go.RowKit

set_option maxHeartbeats 800000 in
theorem riri_any (s : ByteArray) (p : Nat) (hs : s.size ≤ 100000) (hp : p < s.size) (w : World) :
    Calls Try.prog 44 #[.string s, .int .i64 p] w fun e w' => e = .returned (.int .i64 ((p + iriLen (s.data.toList.drop p) : Nat) : Int)) ∧ w = w' := by
  have hsl : s.data.toList.length = s.size := by simp
  have HSL := Lib.hid hsl
  clear hsl
  have HI := Lib.hid (show iriScan (p + 1 - p) (s.data.toList.drop (p + 1)) = iriLen (s.data.toList.drop p) by unfold iriLen; rw [List.drop_drop, Nat.add_sub_cancel_left])
  go_enter Try.func44, Try.ntmps44
  go_wp2
  go_loop [5] (fun i => ∃ q : Nat, p + 1 ≤ q ∧ q ≤ s.size ∧ RowKit.Hid (iriScan (q - p) (s.data.toList.drop q) = iriLen (s.data.toList.drop p)) ∧ i = .int .i64 q) (fun i => s.size - (intOf i).toNat)
  case atStart => exact ⟨p + 1, by omega, by omega, HI, by go_num⟩
  case round =>
    clear HI
    obtain ⟨q, hpq, hqs, HI, rfl⟩ := hrel
    by_cases hlt : q < s.size
    · have HP := Lib.hid (pk_lt hlt)
      have HL := Lib.hid (show q < s.data.toList.length by rw [HSL.out]; exact hlt)
      go_wp2
      all_goals first
        | (go_ret; exact ⟨ret_i64 (by rw [← HI.out, iriScan_end HL.out (by rw [HP.out]; assumption) (by omega)]; omega), rfl⟩)
        | (go_ret; exact ⟨ret_i64 (by rw [← HI.out, iriScan_bad HL.out (by rw [HP.out]; intro _; omega) (by rw [HP.out]; unfold iriBad; rw [decide_eq_true_eq]; (try simp only [beq_iff_eq] at *); omega)]; rfl), rfl⟩)
        | (go_round
           case rel => exact ⟨q + 1, by omega, by omega, Lib.hid (by rw [← HI.out, iriScan_on HL.out (by rw [HP.out]; unfold iriBad; rw [decide_eq_false_iff_not]; (try simp only [beq_eq_false_iff_ne] at *); omega), show q + 1 - p = q - p + 1 by omega]), by go_num⟩
           case measure => simp [intOf]; omega)
    · go_wp2
      go_ret
      exact ⟨ret_i64 (by rw [← HI.out, iriScan_out (by rw [HSL.out]; omega)]; rfl), rfl⟩

end Go.Proofs.Ytaaomjpkgpjegaa
