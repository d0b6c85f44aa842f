/- Walks of the document's own function on one lexeme: digits and a point. -/
import Derived.Test.YtaaomjpkgpjegaaH5
namespace Go.Proofs.Ytaaomjpkgpjegaa
open Go Go.RowKit

theorem own_none_of {lang : Int} {r : List UInt8} (h1 : pk r 0 ≠ 63) (h2 : pk r 0 ≠ 60) (h3 : pk r 0 ≠ 58) (h4 : letB (pk r 0) = false) : ownLx lang false r = none := by
  unfold ownLx
  by_cases hl : lang ≠ 1
  · rw [if_pos hl]
  · rw [if_neg hl, if_neg h1, if_neg h2, if_neg (by rintro (h | ⟨h, _⟩); exact h3 h; rw [h4] at h; cases h)]
theorem dig_pos {r : List UInt8} (h : digB (pk r 0) = true) : 0 < digLen r := by
  unfold digLen
  have := (tw_step digB rfl r 0 (Nat.zero_le _)).1 h
  omega

set_option maxRecDepth 100000 in
set_option maxHeartbeats 1000000 in
theorem one_dec (s : ByteArray) (p : Nat) (lang : Int) (w : World) (hs : s.size ≤ 100000) (hp : p < s.size) (hc : digB (s[p].toNat : Int) = true) (z : Nat) (hz : p + digLen (s.data.toList.drop p) = z) (hz2 : z + 1 < s.size) (h46 : (s[z].toNat : Int) = 46) (hd : digB (s[z + 1].toNat : Int) = true) :
    Calls Try.prog 31 #[.int .i64 lang, .string s, .int .i64 p] w fun e w' => (∃ v, e = .returned v ∧ OneIs (nextLx lang false (s.data.toList.drop p)) p v) ∧ Below w.heap.size w w' := by
  have hne := dig_not hc
  have HD := Lib.hid hc
  have HL := Lib.hid hne.2.2.2.2
  have t63 : ((s[p].toNat : Int) == 63) = false := by simpa using hne.1
  have t58 : ((s[p].toNat : Int) == 58) = false := by simpa using hne.2.2.1
  have HO := Lib.hid (show nextLx lang false (s.data.toList.drop p) = plainLx (s.data.toList.drop p) by
    unfold nextLx
    rw [own_none_of (by rw [pk_first hp]; exact hne.1) (by rw [pk_first hp]; exact hne.2.1) (by rw [pk_first hp]; exact hne.2.2.1) (by rw [pk_first hp]; exact hne.2.2.2.2)])
  obtain ⟨q, HQ⟩ := name_it (z + 1 + digLen (s.data.toList.drop (z + 1)))
  have hpz : p ≤ z := by omega
  have hd0 : 0 < digLen (s.data.toList.drop (z + 1)) := dig_pos (by rw [pk_first hz2]; exact hd)
  have hq1 : z + 1 < q := by rw [← HQ.out]; omega
  have hq2 : q ≤ s.size := by rw [← HQ.out]; exact digEnd_le (by omega)
  have HX := Lib.hid (show nextLx lang false (s.data.toList.drop p) = ⟨3, (s.data.toList.drop p).take (q - p), [], q - p⟩ by
    have hw : digLen (s.data.toList.drop p) = z - p := by omega
    have hdr : (s.data.toList.drop p).drop (z - p + 1) = s.data.toList.drop (z + 1) := by rw [List.drop_drop]; congr 1; omega
    have hw2 : z - p + (1 + digLen (s.data.toList.drop (z + 1))) = q - p := by rw [← HQ.out]; omega
    rw [HO.out]
    unfold plainLx
    rw [if_neg (by rw [pk_first hp, HL.out]; decide), if_pos (by rw [pk_first hp]; exact hc), hw, hdr, if_pos ⟨by rw [pk_here hpz (by omega)]; exact h46, hd0⟩, hw2])
  have HT := Lib.hid (show strB ((s.data.toList.drop p).take (q - p)) = s.extract p q by rw [ext_eq])
  have HZ := Lib.hid hz
  have HD2 := Lib.hid hd
  have t46 : ((s[z].toNat : Int) == 46) = true := by rw [h46]; rfl
  have e1 : IntKind.i64.wrap ((z : Int) + 1) = z + 1 := IntWalk.i64_in _ (by omega)
  have e2 : (0 : Int) ≤ (z : Int) + 1 := by omega
  have e3 : ((z : Int) + 1).toNat = z + 1 := by omega
  have e4 : (z : Int) + 1 < s.size := by omega
  have i2 : (p : Int) ≤ q := by omega
  clear hc hne hd h46 hd0 hz
  cases tl : (lang == 1)
  all_goals
    go_enter Try.func31, Try.ntmps31
    go_wp2_with fail
    refine (rletter_is HL.out _).mono ?_
    rintro e w' ⟨rfl, rfl⟩
    go_wp2_with fail
    refine (rdigit_is HD.out _).mono ?_
    rintro e w' ⟨rfl, rfl⟩
    go_wp2_with fail
    refine (rdigits_to hs (a := p) rfl (by omega) HZ.out rfl _).mono ?_
    rintro e w' ⟨rfl, rfl⟩
    go_wp2_with fail
    refine (rdigit_is HD2.out _).mono ?_
    rintro e w' ⟨rfl, rfl⟩
    go_wp2_with fail
    refine (rdigits_to hs (a := z + 1) (by push_cast; rfl) (by omega) HQ.out rfl _).mono ?_
    rintro e w' ⟨rfl, rfl⟩
    go_wp2
    refine bodyPost_ret (v := .agg #[.int .i64 3, .string (s.extract p q), .string ⟨#[]⟩, .int .i64 p, .int .i64 q]) (by simp [results, Try.results31, go_sem]) rfl ⟨⟨_, rfl, oneIs_some HX.out (by omega) HT.out rfl (by omega)⟩, ?_⟩
    first | with_reducible exact below_new2 _ _ _ | with_reducible exact (below_new2 _ _ _).drew | with_reducible exact below_set5 (below_new2 _ _ _) (Nat.le_refl _) | with_reducible exact below_set5 (below_new2 _ _ _).drew (Nat.le_refl _)

end Go.Proofs.Ytaaomjpkgpjegaa
