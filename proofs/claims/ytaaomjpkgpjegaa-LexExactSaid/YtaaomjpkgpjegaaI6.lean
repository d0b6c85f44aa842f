/- Walks of the document's own function on one lexeme: an IRI. -/
import Derived.Test.YtaaomjpkgpjegaaH5
namespace Go.Proofs.Ytaaomjpkgpjegaa
open Go Go.RowKit

set_option maxRecDepth 100000 in
set_option maxHeartbeats 1000000 in
theorem one_iri (s : ByteArray) (p : Nat) (w : World) (hs : s.size ≤ 100000) (hp : p < s.size) (hc : (s[p].toNat : Int) = 60) (h0 : 0 < iriLen (s.data.toList.drop p)) :
    Calls Try.prog 31 #[.int .i64 1, .string s, .int .i64 p] w fun e w' => (∃ v, e = .returned v ∧ OneIs (nextLx 1 false (s.data.toList.drop p)) p v) ∧ Below w.heap.size w w' := by
  obtain ⟨q, HQ⟩ := name_it (p + iriLen (s.data.toList.drop p))
  have hpk : pk (s.data.toList.drop p) 0 = 60 := by rw [pk_first hp, hc]
  have hil := (iriLen_le (s.data.toList.drop p)).2 h0
  rw [drop_len] at hil
  have hq1 : p + 2 < q := by rw [← HQ.out]; omega
  have hq2 : q ≤ s.size := by rw [← HQ.out]; omega
  have HX := Lib.hid (show nextLx 1 false (s.data.toList.drop p) = ⟨5, ((s.data.toList.drop p).drop 1).take (q - 1 - (p + 1)), [], q - p⟩ by
    have hw : iriLen (s.data.toList.drop p) = q - p := by rw [← HQ.out]; omega
    unfold nextLx ownLx
    rw [if_neg (by decide), if_neg (by rw [hpk]; decide), if_pos hpk, hw, if_pos (by omega), show q - 1 - (p + 1) = q - p - 2 by omega])
  have HT := Lib.hid (show strB (((s.data.toList.drop p).drop 1).take (q - 1 - (p + 1))) = s.extract (p + 1) (q - 1) by rw [ext_eq, List.drop_drop])
  have HL := Lib.hid (show letB (s[p].toNat : Int) = false by rw [hc]; rfl)
  have HD := Lib.hid (show digB (s[p].toNat : Int) = false by rw [hc]; rfl)
  have t63 : ((s[p].toNat : Int) == 63) = false := by rw [hc]; rfl
  have t58 : ((s[p].toNat : Int) == 58) = false := by rw [hc]; rfl
  have t34 : ((s[p].toNat : Int) == 34) = false := by rw [hc]; rfl
  have t60 : ((s[p].toNat : Int) == 60) = true := by rw [hc]; rfl
  have e1 : IntKind.i64.wrap ((p : Int) + 1) = p + 1 := IntWalk.i64_in _ (by omega)
  have e2 : IntKind.i64.wrap ((q : Int) - 1) = ((q - 1 : Nat) : Int) := by rw [show (q : Int) - 1 = ((q - 1 : Nat) : Int) by omega]; exact IntWalk.i64_in _ (by omega)
  obtain ⟨z, HZ⟩ := name_it (q - 1)
  rw [HZ.out] at HX HT e2
  have hz1 : p + 1 < z := by rw [← HZ.out]; omega
  have hz2 : z ≤ s.size := by rw [← HZ.out]; omega
  have i1 : (0 : Int) ≤ (p : Int) + 1 := by omega
  have i2 : (p : Int) + 1 ≤ z := by omega
  clear hc h0 hpk hil
  go_enter Try.func31, Try.ntmps31
  go_wp2_with fail
  refine (rletter_is HL.out _).mono ?_
  rintro e w' ⟨rfl, rfl⟩
  go_wp2_with fail
  refine (rdigit_is HD.out _).mono ?_
  rintro e w' ⟨rfl, rfl⟩
  go_wp2_with fail
  refine (riri_to hs (a := p) rfl (by omega) HQ.out rfl _).mono ?_
  rintro e w' ⟨rfl, rfl⟩
  go_wp2_with fail
  go_still_tail 13, (by kernel_rfl)
  still_call (riri_to hs (a := p) rfl (by omega) HQ.out rfl _)
  repeat still_step
  still_call (riri_to hs (a := p) rfl (by omega) HQ.out rfl _)
  repeat still_step
  refine wpStill_nil ?_
  change wpList _ _ _ _ _ (World.drew _)
  clear e1 e2
  go_wp2
  refine bodyPost_ret (v := .agg #[.int .i64 5, .string (s.extract (p + 1) z), .string ⟨#[]⟩, .int .i64 p, .int .i64 q]) (by simp [results, Try.results31, go_sem]) rfl ⟨⟨_, rfl, oneIs_some HX.out (by omega) HT.out rfl (by omega)⟩, ?_⟩
  first | with_reducible exact below_new2 _ _ _ | with_reducible exact (below_new2 _ _ _).drew | with_reducible exact below_set5 (below_new2 _ _ _) (Nat.le_refl _) | with_reducible exact below_set5 (below_new2 _ _ _).drew (Nat.le_refl _)

end Go.Proofs.Ytaaomjpkgpjegaa
