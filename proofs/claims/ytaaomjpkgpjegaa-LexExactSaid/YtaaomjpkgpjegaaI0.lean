/- Walks of the document's own function on one lexeme: a variable. -/
import Derived.Test.YtaaomjpkgpjegaaH5
namespace Go.Proofs.Ytaaomjpkgpjegaa
open Go Go.RowKit

set_option maxRecDepth 100000 in
set_option maxHeartbeats 1000000 in
theorem one_var (s : ByteArray) (p : Nat) (w : World) (hs : s.size ≤ 100000) (hp : p < s.size) (c63 : (s[p].toNat : Int) = 63) (h0 : 0 < wordLen (s.data.toList.drop (p + 1))) :
    Calls Try.prog 31 #[.int .i64 1, .string s, .int .i64 p] w fun e w' => (∃ v, e = .returned v ∧ OneIs (nextLx 1 false (s.data.toList.drop p)) p v) ∧ Below w.heap.size w w' := by
  obtain ⟨q, HQ⟩ := name_it (p + 1 + wordLen (s.data.toList.drop (p + 1)))
  have hq1 : p + 1 < q := by rw [← HQ.out]; omega
  have hq2 : q ≤ s.size := by rw [← HQ.out]; exact wordEnd_le (by omega)
  have hpk : pk (s.data.toList.drop p) 0 = 63 := by rw [pk_first hp, c63]
  have HX := Lib.hid (show nextLx 1 false (s.data.toList.drop p) = ⟨1, ((s.data.toList.drop p).drop 1).take (q - (p + 1)), [], q - p⟩ by
    have hw : wordLen ((s.data.toList.drop p).drop 1) = q - (p + 1) := by rw [List.drop_drop, ← HQ.out]; omega
    unfold nextLx ownLx
    rw [if_neg (by decide), if_pos hpk, hw, if_pos (by omega), show q - (p + 1) + 1 = q - p by omega])
  have HT := Lib.hid (show strB (((s.data.toList.drop p).drop 1).take (q - (p + 1))) = s.extract (p + 1) q by rw [ext_eq, List.drop_drop])
  have t1 : ((s[p].toNat : Int) == 63) = true := by rw [c63]; rfl
  have e1 : IntKind.i64.wrap ((p : Int) + 1) = p + 1 := IntWalk.i64_in _ (by omega)
  have i1 : (0 : Int) ≤ (p : Int) + 1 := by omega
  have i2 : (p : Int) + 1 ≤ q := by omega
  clear c63 h0 hpk
  go_enter Try.func31, Try.ntmps31
  go_wp2_with fail
  refine (rword_to hs (a := p + 1) (by push_cast; rfl) (by omega) HQ.out rfl _).mono ?_
  rintro e w' ⟨rfl, rfl⟩
  go_wp2_with fail
  go_still_tail 14, (by kernel_rfl)
  still_call (rword_to hs (a := p + 1) (by push_cast; rfl) (by omega) HQ.out rfl _)
  repeat still_step
  still_call (rword_to hs (a := p + 1) (by push_cast; rfl) (by omega) HQ.out rfl _)
  repeat still_step
  refine wpStill_nil ?_
  change wpList _ _ _ _ _ (World.drew _)
  clear e1
  go_wp2
  refine bodyPost_ret (v := .agg #[.int .i64 1, .string (s.extract (p + 1) q), .string ⟨#[]⟩, .int .i64 p, .int .i64 q]) (by simp [results, Try.results31, go_sem]) rfl ⟨⟨_, rfl, oneIs_some HX.out (by omega) HT.out rfl (by omega)⟩, ?_⟩
  first | with_reducible exact below_new2 _ _ _ | with_reducible exact (below_new2 _ _ _).drew | with_reducible exact below_set5 (below_new2 _ _ _) (Nat.le_refl _) | with_reducible exact below_set5 (below_new2 _ _ _).drew (Nat.le_refl _)

end Go.Proofs.Ytaaomjpkgpjegaa
