/- Walks of the document's own function on one lexeme: a name with a colon. -/
import Derived.Test.YtaaomjpkgpjegaaH5
namespace Go.Proofs.Ytaaomjpkgpjegaa
open Go Go.RowKit

set_option maxRecDepth 100000 in
set_option maxHeartbeats 1000000 in
theorem one_name (s : ByteArray) (p : Nat) (w : World) (hs : s.size ≤ 100000) (hp : p < s.size) (hc : letB (s[p].toNat : Int) = true ∨ (s[p].toNat : Int) = 58) (z : Nat) (hz : p + wordLen (s.data.toList.drop p) = z) (hzs : z < s.size) (hzc : (s[z].toNat : Int) = 58) (h0 : 0 < wordLen (s.data.toList.drop (z + 1))) :
    Calls Try.prog 31 #[.int .i64 1, .string s, .int .i64 p] w fun e w' => (∃ v, e = .returned v ∧ OneIs (nextLx 1 false (s.data.toList.drop p)) p v) ∧ Below w.heap.size w w' := by
  obtain ⟨q, HQ⟩ := name_it (z + 1 + wordLen (s.data.toList.drop (z + 1)))
  have hz1 : p ≤ z := by omega
  have hq1 : z + 1 < q := by rw [← HQ.out]; omega
  have hq2 : q ≤ s.size := by rw [← HQ.out]; exact wordEnd_le (by omega)
  have HZ := Lib.hid hz
  have HX := Lib.hid (show nextLx 1 false (s.data.toList.drop p) = ⟨6, (s.data.toList.drop p).take (z - p), ((s.data.toList.drop p).drop (z - p + 1)).take (q - (z + 1)), q - p⟩ by
    have hw : wordLen (s.data.toList.drop p) = z - p := by rw [← hz]; omega
    have hd : (s.data.toList.drop p).drop (z - p + 1) = s.data.toList.drop (z + 1) := by rw [List.drop_drop]; congr 1; omega
    have hw2 : wordLen ((s.data.toList.drop p).drop (z - p + 1)) = q - (z + 1) := by rw [hd, ← HQ.out]; omega
    have hne : pk (s.data.toList.drop p) 0 ≠ 63 ∧ pk (s.data.toList.drop p) 0 ≠ 60 := by
      rw [pk_first hp]
      rcases hc with hc | hc
      · exact ⟨(let_not hc).1, (let_not hc).2.1⟩
      · omega
    unfold nextLx ownLx
    rw [if_neg (by decide), if_neg hne.1, if_neg hne.2, if_pos (by rw [pk_first hp]; rcases hc with hc | hc; exact .inr ⟨hc, rfl⟩; exact .inl hc), hw, if_pos (by rw [pk_here hz1 hzs]; exact hzc), hw2, if_pos (by omega)]
    simp only [Lx.mk.injEq, true_and]
    omega)
  have HT := Lib.hid (show strB ((s.data.toList.drop p).take (z - p)) = s.extract p z by rw [ext_eq])
  have HE := Lib.hid (show strB (((s.data.toList.drop p).drop (z - p + 1)).take (q - (z + 1))) = s.extract (z + 1) q by
    rw [ext_eq, List.drop_drop]
    congr 3
    omega)
  have t1 : ((s[z].toNat : Int) == 58) = true := by rw [hzc]; rfl
  have e1 : IntKind.i64.wrap ((z : Int) + 1) = z + 1 := IntWalk.i64_in _ (by omega)
  have i0 : (p : Int) ≤ z := by omega
  have i3 : z ≤ s.size := by omega
  have i1 : (0 : Int) ≤ (z : Int) + 1 := by omega
  have i2 : (z : Int) + 1 ≤ q := by omega
  clear hzc h0
  rcases hc with hc | hc
  · have HL := Lib.hid hc
    have t2 : ((s[p].toNat : Int) == 63) = false := by simpa using (let_not hc).1
    clear hc hz
    go_enter Try.func31, Try.ntmps31
    go_wp2_with fail
    refine (rletter_is HL.out _).mono ?_
    rintro e w' ⟨rfl, rfl⟩
    go_wp2_with fail
    refine (rword_to hs (a := p) rfl (by omega) HZ.out rfl _).mono ?_
    rintro e w' ⟨rfl, rfl⟩
    go_wp2_with fail
    refine (rword_to hs (a := z + 1) (by push_cast; rfl) (by omega) HQ.out rfl _).mono ?_
    rintro e w' ⟨rfl, rfl⟩
    go_wp2_with fail
    go_still_tail 18, (by kernel_rfl)
    still_call (rword_to hs (a := z + 1) (by push_cast; rfl) (by omega) HQ.out rfl _)
    repeat still_step
    still_call (rword_to hs (a := z + 1) (by push_cast; rfl) (by omega) HQ.out rfl _)
    repeat still_step
    refine wpStill_nil ?_
    change wpList _ _ _ _ _ (World.drew _)
    clear e1
    go_wp2
    refine bodyPost_ret (v := .agg #[.int .i64 6, .string (s.extract p z), .string (s.extract (z + 1) q), .int .i64 p, .int .i64 q]) (by simp [results, Try.results31, go_sem]) rfl ⟨⟨_, rfl, oneIs_some HX.out (by omega) HT.out HE.out (by omega)⟩, ?_⟩
    first | with_reducible exact below_new2 _ _ _ | with_reducible exact (below_new2 _ _ _).drew | with_reducible exact below_set5 (below_new2 _ _ _) (Nat.le_refl _) | with_reducible first | with_reducible exact below_new2 _ _ _ | with_reducible exact (below_new2 _ _ _).drew | with_reducible exact below_set5 (below_new2 _ _ _) (Nat.le_refl _) | with_reducible exact below_set5 (below_new2 _ _ _).drew (Nat.le_refl _)
  · have HL := Lib.hid (show letB (s[p].toNat : Int) = false by rw [hc]; rfl)
    have t2 : ((s[p].toNat : Int) == 63) = false := by rw [hc]; rfl
    have t3 : ((s[p].toNat : Int) == 58) = true := by rw [hc]; rfl
    clear hc hz
    go_enter Try.func31, Try.ntmps31
    go_wp2_with fail
    refine (rletter_is HL.out _).mono ?_
    rintro e w' ⟨rfl, rfl⟩
    go_wp2_with fail
    refine (rword_to hs (a := p) rfl (by omega) HZ.out rfl _).mono ?_
    rintro e w' ⟨rfl, rfl⟩
    go_wp2_with fail
    refine (rword_to hs (a := z + 1) (by push_cast; rfl) (by omega) HQ.out rfl _).mono ?_
    rintro e w' ⟨rfl, rfl⟩
    go_wp2_with fail
    go_still_tail 18, (by kernel_rfl)
    still_call (rword_to hs (a := z + 1) (by push_cast; rfl) (by omega) HQ.out rfl _)
    repeat still_step
    still_call (rword_to hs (a := z + 1) (by push_cast; rfl) (by omega) HQ.out rfl _)
    repeat still_step
    refine wpStill_nil ?_
    change wpList _ _ _ _ _ (World.drew _)
    clear e1
    go_wp2
    refine bodyPost_ret (v := .agg #[.int .i64 6, .string (s.extract p z), .string (s.extract (z + 1) q), .int .i64 p, .int .i64 q]) (by simp [results, Try.results31, go_sem]) rfl ⟨⟨_, rfl, oneIs_some HX.out (by omega) HT.out HE.out (by omega)⟩, ?_⟩
    first | with_reducible exact below_new2 _ _ _ | with_reducible exact (below_new2 _ _ _).drew | with_reducible exact below_set5 (below_new2 _ _ _) (Nat.le_refl _) | with_reducible first | with_reducible exact below_new2 _ _ _ | with_reducible exact (below_new2 _ _ _).drew | with_reducible exact below_set5 (below_new2 _ _ _) (Nat.le_refl _) | with_reducible exact below_set5 (below_new2 _ _ _).drew (Nat.le_refl _)

end Go.Proofs.Ytaaomjpkgpjegaa
