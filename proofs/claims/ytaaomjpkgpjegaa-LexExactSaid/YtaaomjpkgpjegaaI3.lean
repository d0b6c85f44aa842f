/- Walks of the document's own function on one lexeme: a word in S. -/
import Derived.Test.YtaaomjpkgpjegaaH5
namespace Go.Proofs.Ytaaomjpkgpjegaa
open Go Go.RowKit

set_option maxRecDepth 100000 in
set_option maxHeartbeats 1000000 in
theorem one_sword (s : ByteArray) (p : Nat) (w : World) (hs : s.size ≤ 100000) (hp : p < s.size) (hc : letB (s[p].toNat : Int) = true) (q : Nat) (hq : p + wordLen (s.data.toList.drop p) = q) (hno : ¬ (pk (s.data.toList.drop p) (q - p) = 58 ∧ 0 < wordLen (s.data.toList.drop (q + 1)))) :
    Calls Try.prog 31 #[.int .i64 1, .string s, .int .i64 p] w fun e w' => (∃ v, e = .returned v ∧ OneIs (nextLx 1 false (s.data.toList.drop p)) p v) ∧ Below w.heap.size w w' := by
  have hq0 : 0 < wordLen (s.data.toList.drop p) := pos_word' (by rw [pk_first hp]; exact hc)
  have hq1 : p < q := by omega
  have hq2 : q ≤ s.size := by rw [← hq]; exact wordEnd_le (by omega)
  have HQ := Lib.hid hq
  have HX := Lib.hid (show nextLx 1 false (s.data.toList.drop p) = ⟨0, (s.data.toList.drop p).take (q - p), [], q - p⟩ by
    have hw : wordLen (s.data.toList.drop p) = q - p := by omega
    have hd : (s.data.toList.drop p).drop (q - p + 1) = s.data.toList.drop (q + 1) := by rw [List.drop_drop]; congr 1; omega
    have hown : ownLx 1 false (s.data.toList.drop p) = none := by
      unfold ownLx
      rw [if_neg (by decide), if_neg (by rw [pk_first hp]; exact (let_not hc).1), if_neg (by rw [pk_first hp]; exact (let_not hc).2.1), if_pos (by rw [pk_first hp]; exact .inr ⟨hc, rfl⟩), hw, hd]
      by_cases h58 : pk (s.data.toList.drop p) (q - p) = 58
      · rw [if_pos h58, if_neg (fun h => hno ⟨h58, h⟩)]
      · rw [if_neg h58]
    unfold nextLx
    rw [hown]
    unfold plainLx
    rw [if_pos (by rw [pk_first hp]; exact hc), hw])
  have HT := Lib.hid (show strB ((s.data.toList.drop p).take (q - p)) = s.extract p q by rw [ext_eq])
  have HL := Lib.hid hc
  have t2 : ((s[p].toNat : Int) == 63) = false := by simpa using (let_not hc).1
  have i2 : (p : Int) ≤ q := by omega
  clear hc hq0 hq
  by_cases hqs : q < s.size
  · rw [pk_here (by omega) hqs] at hno
    by_cases h58 : (s[q].toNat : Int) = 58
    · have HZ := Lib.hid (show q + 1 + wordLen (s.data.toList.drop (q + 1)) = q + 1 by
        have : ¬ 0 < wordLen (s.data.toList.drop (q + 1)) := fun h => hno ⟨h58, h⟩
        omega)
      have t1 : ((s[q].toNat : Int) == 58) = true := by rw [h58]; rfl
      have e1 : IntKind.i64.wrap ((q : Int) + 1) = q + 1 := IntWalk.i64_in _ (by omega)
      clear hno h58
      go_enter Try.func31, Try.ntmps31
      go_wp2_with fail
      refine (rletter_is HL.out _).mono ?_
      rintro e w' ⟨rfl, rfl⟩
      go_wp2_with fail
      refine (rword_to hs (a := p) rfl (by omega) HQ.out rfl _).mono ?_
      rintro e w' ⟨rfl, rfl⟩
      go_wp2_with fail
      refine (rword_to hs (a := q + 1) (y := (q : Int) + 1) (by push_cast; rfl) (by omega) HZ.out (by push_cast; rfl) _).mono ?_
      rintro e w' ⟨rfl, rfl⟩
      go_wp2
      refine bodyPost_ret (v := .agg #[.int .i64 0, .string (s.extract p q), .string ⟨#[]⟩, .int .i64 p, .int .i64 q]) (by simp [results, Try.results31, go_sem]) rfl ⟨⟨_, rfl, oneIs_some HX.out (by omega) HT.out rfl (by omega)⟩, ?_⟩
      first | with_reducible exact below_new2 _ _ _ | with_reducible exact (below_new2 _ _ _).drew | with_reducible exact below_set5 (below_new2 _ _ _) (Nat.le_refl _) | with_reducible first | with_reducible exact below_new2 _ _ _ | with_reducible exact (below_new2 _ _ _).drew | with_reducible exact below_set5 (below_new2 _ _ _) (Nat.le_refl _) | with_reducible exact below_set5 (below_new2 _ _ _).drew (Nat.le_refl _)
    · have t1 : ((s[q].toNat : Int) == 58) = false := by simpa using h58
      clear hno h58
      go_enter Try.func31, Try.ntmps31
      go_wp2_with fail
      refine (rletter_is HL.out _).mono ?_
      rintro e w' ⟨rfl, rfl⟩
      go_wp2_with fail
      refine (rword_to hs (a := p) rfl (by omega) HQ.out rfl _).mono ?_
      rintro e w' ⟨rfl, rfl⟩
      go_wp2
      refine bodyPost_ret (v := .agg #[.int .i64 0, .string (s.extract p q), .string ⟨#[]⟩, .int .i64 p, .int .i64 q]) (by simp [results, Try.results31, go_sem]) rfl ⟨⟨_, rfl, oneIs_some HX.out (by omega) HT.out rfl (by omega)⟩, ?_⟩
      first | with_reducible exact below_new2 _ _ _ | with_reducible exact (below_new2 _ _ _).drew | with_reducible exact below_set5 (below_new2 _ _ _) (Nat.le_refl _) | with_reducible first | with_reducible exact below_new2 _ _ _ | with_reducible exact (below_new2 _ _ _).drew | with_reducible exact below_set5 (below_new2 _ _ _) (Nat.le_refl _) | with_reducible exact below_set5 (below_new2 _ _ _).drew (Nat.le_refl _)
  · clear hno
    go_enter Try.func31, Try.ntmps31
    go_wp2_with fail
    refine (rletter_is HL.out _).mono ?_
    rintro e w' ⟨rfl, rfl⟩
    go_wp2_with fail
    refine (rword_to hs (a := p) rfl (by omega) HQ.out rfl _).mono ?_
    rintro e w' ⟨rfl, rfl⟩
    go_wp2
    refine bodyPost_ret (v := .agg #[.int .i64 0, .string (s.extract p q), .string ⟨#[]⟩, .int .i64 p, .int .i64 q]) (by simp [results, Try.results31, go_sem]) rfl ⟨⟨_, rfl, oneIs_some HX.out (by omega) HT.out rfl (by omega)⟩, ?_⟩
    first | with_reducible exact below_new2 _ _ _ | with_reducible exact (below_new2 _ _ _).drew | with_reducible exact below_set5 (below_new2 _ _ _) (Nat.le_refl _) | with_reducible first | with_reducible exact below_new2 _ _ _ | with_reducible exact (below_new2 _ _ _).drew | with_reducible exact below_set5 (below_new2 _ _ _) (Nat.le_refl _) | with_reducible exact below_set5 (below_new2 _ _ _).drew (Nat.le_refl _)

end Go.Proofs.Ytaaomjpkgpjegaa
