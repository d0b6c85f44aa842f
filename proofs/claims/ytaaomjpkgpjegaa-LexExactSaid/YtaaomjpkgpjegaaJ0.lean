/- Walk of the document's own function on one lexeme: a question mark alone. -/
import Derived.Test.YtaaomjpkgpjegaaI9
namespace Go.Proofs.Ytaaomjpkgpjegaa
open Go Go.RowKit

set_option maxRecDepth 100000 in
set_option maxHeartbeats 1000000 in
theorem one_mark63 (s : ByteArray) (p : Nat) (w : World) (hs : s.size ≤ 100000) (hp : p < s.size) (hc : (s[p].toNat : Int) = 63) (h0 : wordLen (s.data.toList.drop (p + 1)) = 0) :
    Calls Try.prog 31 #[.int .i64 1, .string s, .int .i64 p] w fun e w' => (∃ v, e = .returned v ∧ OneIs (nextLx 1 false (s.data.toList.drop p)) p v) ∧ Below w.heap.size w w' := by
  have hc1 : letB (s[p].toNat : Int) = false := by rw [hc]; rfl
  have hc2 : digB (s[p].toNat : Int) = false := by rw [hc]; rfl
  have hc3 : (s[p].toNat : Int) ≠ 34 := by rw [hc]; decide
  obtain ⟨r, HR⟩ := name_it (s.data.toList.drop p)
  have HX := Lib.hid (show nextLx 1 false r = ⟨7, r.take (markLen r), [], markLen r⟩ by
    have hpk := pk_first hp
    rw [HR.out] at hpk
    have hown : ownLx 1 false r = none := by
      unfold ownLx
      rw [if_neg (by decide)]
      rw [if_pos (by rw [hpk]; exact hc), ← HR.out, List.drop_drop, h0, if_neg (by decide)]
    unfold nextLx
    rw [hown]
    unfold plainLx
    rw [if_neg (by rw [hpk, hc1]; decide), if_neg (by rw [hpk, hc2]; decide), if_neg (by rw [hpk]; exact hc3)])
  rw [HR.out]
  have HLR := Lib.hid (show r.length = s.size - p by rw [← HR.out, drop_len])
  have HL := Lib.hid hc1
  have HD := Lib.hid hc2
  have t63 : ((s[p].toNat : Int) == 63) = true := by rw [hc]; rfl
  have t58 : ((s[p].toNat : Int) == 58) = false := by rw [hc]; rfl
  have t34 : ((s[p].toNat : Int) == 34) = false := by rw [hc]; rfl
  have t60 : ((s[p].toNat : Int) == 60) = false := by rw [hc]; rfl
  have HW := Lib.hid (show p + 1 + wordLen (s.data.toList.drop (p + 1)) = p + 1 by omega)
  have e1 : IntKind.i64.wrap ((p : Int) + 1) = p + 1 := IntWalk.i64_in _ (by omega)
  clear hc1 hc2 hc3 hc h0
  go_enter Try.func31, Try.ntmps31
  go_wp2_with fail
  refine (rword_to hs (a := p + 1) (y := (p : Int) + 1) (by push_cast; rfl) (by omega) HW.out (by push_cast; rfl) _).mono ?_
  rintro e w' ⟨rfl, rfl⟩
  go_wp2_with fail
  refine (rletter_is HL.out _).mono ?_
  rintro e w' ⟨rfl, rfl⟩
  go_wp2_with fail
  refine (rdigit_is HD.out _).mono ?_
  rintro e w' ⟨rfl, rfl⟩
  go_wp2_with fail
  refine (marks_any _).mono ?_
  rintro e W ⟨rfl, hW⟩
  have hbw : Below w.heap.size w W := by rw [hW]; exact (below_new2 w _ _).alloc (by simp; omega) _
  have R0 : Res5 W w.heap.size (.int .i64 0) (.string ⟨#[]⟩) (.string ⟨#[]⟩) (.int .i64 0) (.int .i64 0) := by
    rw [hW]
    exact ((Res5.new w _ _ _ _ _).below (by simp) ((Below.refl _ _).alloc (Nat.le_refl _) _)).below (by simp; omega) ((Below.refl _ _).alloc (Nat.le_refl _) _)
  have R1 : Res5 W (w.heap.size + 1) (.int .i64 0) (.string ⟨#[]⟩) (.string ⟨#[]⟩) (.int .i64 p) (.int .i64 p) := by
    rw [hW]
    have := (Res5.new (w.alloc (.cells #[.int .i64 0, .string ⟨#[]⟩, .string ⟨#[]⟩, .int .i64 0, .int .i64 0] 36)) (.int .i64 0) (.string ⟨#[]⟩) (.string ⟨#[]⟩) (.int .i64 p) (.int .i64 p)).below (by simp) ((Below.refl _ _).alloc (Nat.le_refl _) (.cells marksArr 9))
    simpa using this
  have HM := Lib.hid (show ∀ k, k < 27 → W.cell? ⟨w.heap.size + 1 + 1, k, none⟩ = some (.string (strB (mk k))) from fun k hk => by
    rw [hW, ← marksArr_at hk]
    have hh := heap_alloc_new ((w.alloc (.cells #[.int .i64 0, .string ⟨#[]⟩, .string ⟨#[]⟩, .int .i64 0, .int .i64 0] 36)).alloc (.cells #[.int .i64 0, .string ⟨#[]⟩, .string ⟨#[]⟩, .int .i64 p, .int .i64 p] 36)) (.cells marksArr 9)
    have := Lib.cell_of_heap hh k
    simpa using this)
  clear hW
  go_wp2
  go_loopw [13] (fun i wr => ∃ k : Nat, k ≤ 27 ∧ i = .int .i64 k ∧ RowKit.Hid (∀ j, j < k → Lib.hasPrefix r (mk j) = false) ∧ ∃ n, wr = W.drewN n) (fun i _ => 27 - (intOf i).toNat)
  case atStart => exact ⟨0, by omega, rfl, Lib.hid (fun j hj => absurd hj (by omega)), 0, rfl⟩
  case round =>
    obtain ⟨k, hk, rfl, HN, n, rfl⟩ := hrel
    by_cases hlt : k < 27
    · have cm : W.cell? ⟨w.heap.size + 1 + 1, k, none⟩ = some (.string (strB (mk k))) := HM.out k hlt
      obtain ⟨hm1, hm2⟩ := mk_len k hlt
      obtain ⟨M, HMM⟩ := name_it (strB (mk k))
      rw [HMM.out] at cm
      obtain ⟨m, HML⟩ := name_it (mk k).length
      rw [HML.out] at hm1 hm2
      have HMS := Lib.hid (show M.size = m by rw [← HMM.out, ← HML.out]; exact List.size_toArray)
      have ms := HMS.out
      have e1 : (0 : Int) ≤ k := by omega
      have e2 : (k : Int) < 27 := by omega
      have e3 : IntKind.i64.wrap ((s.size : Int) - p) = s.size - p := IntWalk.i64_in _ (by omega)
      by_cases hfit : p + m ≤ s.size
      · have tg : decide ((m : Int) ≤ (s.size : Int) - p) = true := decide_eq_true (by omega)
        have e4 : IntKind.i64.wrap ((p : Int) + m) = p + m := IntWalk.i64_in _ (by omega)
        have e5 : (0 : Int) ≤ (p : Int) + m := by omega
        have e6 : (p : Int) ≤ (p : Int) + m := by omega
        have e7 : (p : Int) + m ≤ s.size := by omega
        have e8 : ((p : Int) + m).toNat = p + m := by omega
        go_wp2
        go_quiet (fail)
        clear e3 e4
        go_wp2
        · have heq := of_toList (by assumption)
          have HPR := Lib.hid (show Lib.hasPrefix r (mk k) = true by rw [← HR.out]; exact pre_of_ext HMM.out heq)
          have HF := Lib.hid (mark_first hlt HN.out HPR.out)
          have HK := Lib.hid (pre_take HPR.out)
          have e3 : IntKind.i64.wrap ((p : Int) + m) = p + m := IntWalk.i64_in _ (by omega)
          clear heq
          generalize hW2 : (W.drewN n).drewN _ = W2
          have cm2 : W2.cell? ⟨w.heap.size + 1 + 1, k, none⟩ = some (.string M) := by rw [← hW2]; exact cm
          have RS : Res5 W2 w.heap.size (.int .i64 0) (.string ⟨#[]⟩) (.string ⟨#[]⟩) (.int .i64 0) (.int .i64 0) := by rw [← hW2]; exact (R0.drewN _).drewN _
          have HB2 := Lib.hid (show Below w.heap.size w W2 by rw [← hW2]; exact below_drewN (below_drewN hbw _) _)
          clear hW2 cm R0 R1 hbw
          go_still_tail 13, (by kernel_rfl)
          change wpList _ _ _ _ _ (World.drew _)
          obtain ⟨⟨c0, c1, c2, c3, c4⟩, f0, f1, f2, f3, f4⟩ := RS
          have RS : Res5 W2 w.heap.size _ _ _ _ _ := ⟨⟨c0, c1, c2, c3, c4⟩, f0, f1, f2, f3, f4⟩
          clear e3
          go_wp2
          refine bodyPost_ret (v := .agg #[.int .i64 7, .string M, .string ⟨#[]⟩, .int .i64 p, .int .i64 (p + m)]) ((res5_drew (RS.set5 _ _ _ _ _)).read31 rfl) rfl ⟨⟨_, rfl, ?_⟩, ?_⟩
          · rw [show ((p : Int) + m) = ((p + m : Nat) : Int) from by push_cast; rfl]
            exact oneIs_some HX.out (by rw [HF.out, HML.out]; exact hm1) (by rw [HF.out, HK.out, HMM.out]) rfl (by rw [HF.out, HML.out])
          · exact (below_set5 HB2.out (Nat.le_refl _)).drew
        · have hneq := of_toList_no (by assumption)
          have HN2 := Lib.hid (mk_next HN.out (fun h => hneq (ext_of_pre HMM.out HML.out (by rw [HR.out]; exact h))))
          clear hneq
          go_roundw
          case rel => exact ⟨k + 1, by omega, by go_num, HN2, _, rfl⟩
          case measure => simp [intOf]; omega
      · have tg : decide ((m : Int) ≤ (s.size : Int) - p) = false := decide_eq_false (by omega)
        have HN2 := Lib.hid (mk_next HN.out (fun h => by have := pre_fits h; rw [HML.out, HLR.out] at this; omega))
        go_wp2
        go_quiet (fail)
        go_wp2
        go_roundw
        case rel => exact ⟨k + 1, by omega, by go_num, HN2, _, rfl⟩
        case measure => simp [intOf]; omega
    · have hke : k = 27 := by omega
      subst hke
      have HF := Lib.hid (mark_none HN.out)
      generalize hW2 : W.drewN _ = W2
      have RS : Res5 W2 w.heap.size (.int .i64 0) (.string ⟨#[]⟩) (.string ⟨#[]⟩) (.int .i64 0) (.int .i64 0) := by rw [← hW2]; exact R0.drewN _
      have RT : Res5 W2 (w.heap.size + 1) (.int .i64 0) (.string ⟨#[]⟩) (.string ⟨#[]⟩) (.int .i64 p) (.int .i64 p) := by rw [← hW2]; exact R1.drewN _
      have HB2 := Lib.hid (show Below w.heap.size w W2 by rw [← hW2]; exact below_drewN hbw _)
      clear hW2 R0 R1 hbw
      simp only [Int.cast_ofNat_Int]
      obtain ⟨⟨c0, c1, c2, c3, c4⟩, f0, f1, f2, f3, f4⟩ := RS
      obtain ⟨⟨d0, d1, d2, d3, d4⟩, g0, g1, g2, g3, g4⟩ := RT
      have RS : Res5 W2 w.heap.size _ _ _ _ _ := ⟨⟨c0, c1, c2, c3, c4⟩, f0, f1, f2, f3, f4⟩
      go_wp2
      refine bodyPost_ret (v := .agg #[.int .i64 0, .string ⟨#[]⟩, .string ⟨#[]⟩, .int .i64 p, .int .i64 p]) ((RS.set5 _ _ _ _ _).read31 rfl) rfl ⟨⟨_, rfl, ?_⟩, ?_⟩
      · rw [HX.out]
        exact .inr ⟨HF.out, _, _, _, rfl, by omega⟩
      · exact below_set5 HB2.out (Nat.le_refl _)

end Go.Proofs.Ytaaomjpkgpjegaa
