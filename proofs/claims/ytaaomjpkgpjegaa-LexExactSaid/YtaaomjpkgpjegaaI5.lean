/- Walks of the document's own function on one lexeme: digits. -/
import Derived.Test.YtaaomjpkgpjegaaI4
namespace Go.Proofs.Ytaaomjpkgpjegaa
open Go Go.RowKit

set_option maxRecDepth 100000 in
set_option maxHeartbeats 1000000 in
theorem one_int (s : ByteArray) (p : Nat) (lang : Int) (w : World) (hs : s.size ≤ 100000) (hp : p < s.size) (hc : digB (s[p].toNat : Int) = true) (q : Nat) (hq : p + digLen (s.data.toList.drop p) = q) (hno : ¬ (pk (s.data.toList.drop p) (q - p) = 46 ∧ 0 < digLen (s.data.toList.drop (q + 1)))) :
    Calls Try.prog 31 #[.int .i64 lang, .string s, .int .i64 p] w fun e w' => (∃ v, e = .returned v ∧ OneIs (nextLx lang false (s.data.toList.drop p)) p v) ∧ Below w.heap.size w w' := by
  have hne := dig_not hc
  have HD := Lib.hid hc
  have HL := Lib.hid hne.2.2.2.2
  have t63 : ((s[p].toNat : Int) == 63) = false := by simpa using hne.1
  have t58 : ((s[p].toNat : Int) == 58) = false := by simpa using hne.2.2.1
  have HO := Lib.hid (show nextLx lang false (s.data.toList.drop p) = plainLx (s.data.toList.drop p) by
    unfold nextLx
    rw [own_none_of (by rw [pk_first hp]; exact hne.1) (by rw [pk_first hp]; exact hne.2.1) (by rw [pk_first hp]; exact hne.2.2.1) (by rw [pk_first hp]; exact hne.2.2.2.2)])
  have hd0 : 0 < digLen (s.data.toList.drop p) := dig_pos (by rw [pk_first hp]; exact hc)
  have hq1 : p < q := by omega
  have hq2 : q ≤ s.size := by rw [← hq]; exact digEnd_le (by omega)
  have HX := Lib.hid (show nextLx lang false (s.data.toList.drop p) = ⟨2, (s.data.toList.drop p).take (q - p), [], q - p⟩ by
    have hw : digLen (s.data.toList.drop p) = q - p := by omega
    have hdr : (s.data.toList.drop p).drop (q - p + 1) = s.data.toList.drop (q + 1) := by rw [List.drop_drop]; congr 1; omega
    rw [HO.out]
    unfold plainLx
    rw [if_neg (by rw [pk_first hp, HL.out]; decide), if_pos (by rw [pk_first hp]; exact hc), hw, hdr, if_neg hno])
  have HT := Lib.hid (show strB ((s.data.toList.drop p).take (q - p)) = s.extract p q by rw [ext_eq])
  have HQ := Lib.hid hq
  have e1 : IntKind.i64.wrap ((q : Int) + 1) = q + 1 := IntWalk.i64_in _ (by omega)
  have i2 : (p : Int) ≤ q := by omega
  clear hc hne hd0 hq
  by_cases hqs : q + 1 < s.size
  · have e2 : (0 : Int) ≤ (q : Int) + 1 := by omega
    have e3 : ((q : Int) + 1).toNat = q + 1 := by omega
    have e4 : (q : Int) + 1 < s.size := by omega
    rw [pk_here (by omega) (show q < s.size by omega)] at hno
    by_cases h46 : (s[q].toNat : Int) = 46
    · have HD2 := Lib.hid (show digB (s[q + 1].toNat : Int) = false by
        cases h : digB (s[q + 1].toNat : Int) with
        | false => rfl
        | true => exact absurd ⟨h46, dig_pos (by rw [pk_first hqs]; exact h)⟩ hno)
      have t46 : ((s[q].toNat : Int) == 46) = true := by rw [h46]; rfl
      clear hno h46
      cases tl : (lang == 1)
      all_goals
        go_enter Try.func31, Try.ntmps31
        go_wp2_with fail
        refine (rletter_is HL.out _).mono ?_
        rintro e w' ⟨rfl, rfl⟩
        go_wp2_with fail
        refine (rdigit_is HD.out _).mono ?_
        rintro e w' ⟨rfl, rfl⟩
        go_wp2_with fail
        refine (rdigits_to hs (a := p) rfl (by omega) HQ.out rfl _).mono ?_
        rintro e w' ⟨rfl, rfl⟩
        go_wp2_with fail
        refine (rdigit_is HD2.out _).mono ?_
        rintro e w' ⟨rfl, rfl⟩
        go_wp2
        refine bodyPost_ret (v := .agg #[.int .i64 2, .string (s.extract p q), .string ⟨#[]⟩, .int .i64 p, .int .i64 q]) (by simp [results, Try.results31, go_sem]) rfl ⟨⟨_, rfl, oneIs_some HX.out (by omega) HT.out rfl (by omega)⟩, ?_⟩
        first | with_reducible exact below_new2 _ _ _ | with_reducible exact (below_new2 _ _ _).drew | with_reducible exact below_set5 (below_new2 _ _ _) (Nat.le_refl _) | with_reducible exact below_set5 (below_new2 _ _ _).drew (Nat.le_refl _)
    · have t46 : ((s[q].toNat : Int) == 46) = false := by simpa using h46
      clear hno h46
      cases tl : (lang == 1)
      all_goals
        go_enter Try.func31, Try.ntmps31
        go_wp2_with fail
        refine (rletter_is HL.out _).mono ?_
        rintro e w' ⟨rfl, rfl⟩
        go_wp2_with fail
        refine (rdigit_is HD.out _).mono ?_
        rintro e w' ⟨rfl, rfl⟩
        go_wp2_with fail
        refine (rdigits_to hs (a := p) rfl (by omega) HQ.out rfl _).mono ?_
        rintro e w' ⟨rfl, rfl⟩
        go_wp2
        refine bodyPost_ret (v := .agg #[.int .i64 2, .string (s.extract p q), .string ⟨#[]⟩, .int .i64 p, .int .i64 q]) (by simp [results, Try.results31, go_sem]) rfl ⟨⟨_, rfl, oneIs_some HX.out (by omega) HT.out rfl (by omega)⟩, ?_⟩
        first | with_reducible exact below_new2 _ _ _ | with_reducible exact (below_new2 _ _ _).drew | with_reducible exact below_set5 (below_new2 _ _ _) (Nat.le_refl _) | with_reducible exact below_set5 (below_new2 _ _ _).drew (Nat.le_refl _)
  · have t1 : decide ((q : Int) + 1 < s.size) = false := decide_eq_false (by omega)
    clear hno
    cases tl : (lang == 1)
    all_goals
      go_enter Try.func31, Try.ntmps31
      go_wp2_with fail
      refine (rletter_is HL.out _).mono ?_
      rintro e w' ⟨rfl, rfl⟩
      go_wp2_with fail
      refine (rdigit_is HD.out _).mono ?_
      rintro e w' ⟨rfl, rfl⟩
      go_wp2_with fail
      refine (rdigits_to hs (a := p) rfl (by omega) HQ.out rfl _).mono ?_
      rintro e w' ⟨rfl, rfl⟩
      go_wp2
      refine bodyPost_ret (v := .agg #[.int .i64 2, .string (s.extract p q), .string ⟨#[]⟩, .int .i64 p, .int .i64 q]) (by simp [results, Try.results31, go_sem]) rfl ⟨⟨_, rfl, oneIs_some HX.out (by omega) HT.out rfl (by omega)⟩, ?_⟩
      first | with_reducible exact below_new2 _ _ _ | with_reducible exact (below_new2 _ _ _).drew | with_reducible exact below_set5 (below_new2 _ _ _) (Nat.le_refl _) | with_reducible exact below_set5 (below_new2 _ _ _).drew (Nat.le_refl _)

end Go.Proofs.Ytaaomjpkgpjegaa
