/- Walk of the document's own function on one lexeme: a mark, or nothing. -/
import Derived.Test.YtaaomjpkgpjegaaI7
import Derived.Test.YtaaomjpkgpjegaaI8
namespace Go.Proofs.Ytaaomjpkgpjegaa
open Go Go.RowKit

theorem res5_drew {w : World} {g : Nat} {a0 a1 a2 a3 a4 : Value} (h : Res5 w g a0 a1 a2 a3 a4) : Res5 w.drew g a0 a1 a2 a3 a4 := h
theorem of_toList {a b : ByteArray} (h : (a.toList == b.toList) = true) : a = b := by
  have := eq_of_beq h
  rw [Lib.toList_data, Lib.toList_data] at this
  exact ByteArray.ext (Array.toList_inj.1 this)
theorem of_toList_no {a b : ByteArray} (h : (a.toList == b.toList) = false) : a ≠ b := by
  rintro rfl
  simp at h
theorem pre_of_ext {s M : ByteArray} {p m : Nat} {l : List UInt8} (hM : strB l = M) (h : s.extract p (p + m) = M) : Lib.hasPrefix (s.data.toList.drop p) l = true := by
  subst hM
  rw [ext_eq, Nat.add_sub_cancel_left] at h
  have h2 : (s.data.toList.drop p).take m = l := by
    have := congrArg (fun b : ByteArray => b.data.toList) h
    simpa [strB] using this
  rw [← h2]
  exact List.isPrefixOf_iff_prefix.2 (List.take_prefix _ _)
theorem ext_of_pre {s M : ByteArray} {p m : Nat} {l : List UInt8} (hM : strB l = M) (hm : l.length = m) (h : Lib.hasPrefix (s.data.toList.drop p) l = true) : s.extract p (p + m) = M := by
  subst hM
  rw [ext_eq, Nat.add_sub_cancel_left, ← hm, pre_take h]
theorem pre_fits {r l : List UInt8} (h : Lib.hasPrefix r l = true) : l.length ≤ r.length := List.IsPrefix.length_le (List.isPrefixOf_iff_prefix.1 h)
theorem mk_next {r : List UInt8} {k : Nat} (h : ∀ j, j < k → Lib.hasPrefix r (mk j) = false) (h1 : ¬ Lib.hasPrefix r (mk k) = true) : ∀ j, j < k + 1 → Lib.hasPrefix r (mk j) = false := by
  intro j hj
  rcases Nat.lt_or_ge j k with hlt | hge
  · exact h j hlt
  · obtain rfl : j = k := by omega
    simpa using h1

set_option maxRecDepth 100000 in
set_option maxHeartbeats 1000000 in
theorem one_mark (s : ByteArray) (p : Nat) (lang : Int) (w : World) (hs : s.size ≤ 100000) (hp : p < s.size) (hc1 : letB (s[p].toNat : Int) = false) (hc2 : digB (s[p].toNat : Int) = false) (hc3 : (s[p].toNat : Int) ≠ 34)
    (hl : lang ≠ 1) :
    Calls Try.prog 31 #[.int .i64 lang, .string s, .int .i64 p] w fun e w' => (∃ v, e = .returned v ∧ OneIs (nextLx lang false (s.data.toList.drop p)) p v) ∧ Below w.heap.size w w' := by
  obtain ⟨r, HR⟩ := name_it (s.data.toList.drop p)
  have HX := Lib.hid (show nextLx lang false r = ⟨7, r.take (markLen r), [], markLen r⟩ by
    have hpk := pk_first hp
    rw [HR.out] at hpk
    have hown : ownLx lang false r = none := by
      unfold ownLx
      rw [if_pos hl]
    unfold nextLx
    rw [hown]
    unfold plainLx
    rw [if_neg (by rw [hpk, hc1]; decide), if_neg (by rw [hpk, hc2]; decide), if_neg (by rw [hpk]; exact hc3)])
  rw [HR.out]
  have HLR := Lib.hid (show r.length = s.size - p by rw [← HR.out, drop_len])
  have HL := Lib.hid hc1
  have HD := Lib.hid hc2
  have t34 : ((s[p].toNat : Int) == 34) = false := by simpa using hc3
  have tl : (lang == 1) = false := by simpa using hl
  clear hc1 hc2 hc3 hl
  go_enter Try.func31, Try.ntmps31
  go_wp2_with fail
  refine (rletter_is HL.out _).mono ?_
  rintro e w' ⟨rfl, rfl⟩
  go_wp2_with fail
  refine (rdigit_is HD.out _).mono ?_
  rintro e w' ⟨rfl, rfl⟩
  go_wp2_with fail
  refine (marks_any _).mono ?_
  rintro e W ⟨rfl, hW⟩
  have hbw : Below w.heap.size w W := by rw [hW]; exact (below_new2 w _ _).alloc (by simp; omega) _
  have R0 : Res5 W w.heap.size (.int .i64 0) (.string ⟨#[]⟩) (.string ⟨#[]⟩) (.int .i64 0) (.int .i64 0) := by
    rw [hW]
    exact ((Res5.new w _ _ _ _ _).below (by simp) ((Below.refl _ _).alloc (Nat.le_refl _) _)).below (by simp; omega) ((Below.refl _ _).alloc (Nat.le_refl _) _)
  have R1 : Res5 W (w.heap.size + 1) (.int .i64 0) (.string ⟨#[]⟩) (.string ⟨#[]⟩) (.int .i64 p) (.int .i64 p) := by
    rw [hW]
    have := (Res5.new (w.alloc (.cells #[.int .i64 0, .string ⟨#[]⟩, .string ⟨#[]⟩, .int .i64 0, .int .i64 0] 36)) (.int .i64 0) (.string ⟨#[]⟩) (.string ⟨#[]⟩) (.int .i64 p) (.int .i64 p)).below (by simp) ((Below.refl _ _).alloc (Nat.le_refl _) (.cells marksArr 9))
    simpa using this
  have HM := Lib.hid (show ∀ k, k < 27 → W.cell? ⟨w.heap.size + 1 + 1, k, none⟩ = some (.string (strB (mk k))) from fun k hk => by
    rw [hW, ← marksArr_at hk]
    have hh := heap_alloc_new ((w.alloc (.cells #[.int .i64 0, .string ⟨#[]⟩, .string ⟨#[]⟩, .int .i64 0, .int .i64 0] 36)).alloc (.cells #[.int .i64 0, .string ⟨#[]⟩, .string ⟨#[]⟩, .int .i64 p, .int .i64 p] 36)) (.cells marksArr 9)
    have := Lib.cell_of_heap hh k
    simpa using this)
  clear hW
  go_wp2
  go_loopw [13] (fun i wr => ∃ k : Nat, k ≤ 27 ∧ i = .int .i64 k ∧ RowKit.Hid (∀ j, j < k → Lib.hasPrefix r (mk j) = false) ∧ ∃ n, wr = W.drewN n) (fun i _ => 27 - (intOf i).toNat)
  case atStart => exact ⟨0, by omega, rfl, Lib.hid (fun j hj => absurd hj (by omega)), 0, rfl⟩
  case round =>
    obtain ⟨k, hk, rfl, HN, n, rfl⟩ := hrel
    by_cases hlt : k < 27
    · have cm : W.cell? ⟨w.heap.size + 1 + 1, k, none⟩ = some (.string (strB (mk k))) := HM.out k hlt
      obtain ⟨hm1, hm2⟩ := mk_len k hlt
      obtain ⟨M, HMM⟩ := name_it (strB (mk k))
      rw [HMM.out] at cm
      obtain ⟨m, HML⟩ := name_it (mk k).length
      rw [HML.out] at hm1 hm2
      have HMS := Lib.hid (show M.size = m by rw [← HMM.out, ← HML.out]; exact List.size_toArray)
      have ms := HMS.out
      have e1 : (0 : Int) ≤ k := by omega
      have e2 : (k : Int) < 27 := by omega
      have e3 : IntKind.i64.wrap ((s.size : Int) - p) = s.size - p := IntWalk.i64_in _ (by omega)
      by_cases hfit : p + m ≤ s.size
      · have tg : decide ((m : Int) ≤ (s.size : Int) - p) = true := decide_eq_true (by omega)
        have e4 : IntKind.i64.wrap ((p : Int) + m) = p + m := IntWalk.i64_in _ (by omega)
        have e5 : (0 : Int) ≤ (p : Int) + m := by omega
        have e6 : (p : Int) ≤ (p : Int) + m := by omega
        have e7 : (p : Int) + m ≤ s.size := by omega
        have e8 : ((p : Int) + m).toNat = p + m := by omega
        go_wp2
        go_quiet (fail)
        clear e3 e4
        go_wp2
        · have heq := of_toList (by assumption)
          have HPR := Lib.hid (show Lib.hasPrefix r (mk k) = true by rw [← HR.out]; exact pre_of_ext HMM.out heq)
          have HF := Lib.hid (mark_first hlt HN.out HPR.out)
          have HK := Lib.hid (pre_take HPR.out)
          have e3 : IntKind.i64.wrap ((p : Int) + m) = p + m := IntWalk.i64_in _ (by omega)
          clear heq
          generalize hW2 : (W.drewN n).drewN _ = W2
          have cm2 : W2.cell? ⟨w.heap.size + 1 + 1, k, none⟩ = some (.string M) := by rw [← hW2]; exact cm
          have RS : Res5 W2 w.heap.size (.int .i64 0) (.string ⟨#[]⟩) (.string ⟨#[]⟩) (.int .i64 0) (.int .i64 0) := by rw [← hW2]; exact (R0.drewN _).drewN _
          have HB2 := Lib.hid (show Below w.heap.size w W2 by rw [← hW2]; exact below_drewN (below_drewN hbw _) _)
          clear hW2 cm R0 R1 hbw
          go_still_tail 13, (by kernel_rfl)
          change wpList _ _ _ _ _ (World.drew _)
          obtain ⟨⟨c0, c1, c2, c3, c4⟩, f0, f1, f2, f3, f4⟩ := RS
          have RS : Res5 W2 w.heap.size _ _ _ _ _ := ⟨⟨c0, c1, c2, c3, c4⟩, f0, f1, f2, f3, f4⟩
          clear e3
          go_wp2
          refine bodyPost_ret (v := .agg #[.int .i64 7, .string M, .string ⟨#[]⟩, .int .i64 p, .int .i64 (p + m)]) ((res5_drew (RS.set5 _ _ _ _ _)).read31 rfl) rfl ⟨⟨_, rfl, ?_⟩, ?_⟩
          · rw [show ((p : Int) + m) = ((p + m : Nat) : Int) from by push_cast; rfl]
            exact oneIs_some HX.out (by rw [HF.out, HML.out]; exact hm1) (by rw [HF.out, HK.out, HMM.out]) rfl (by rw [HF.out, HML.out])
          · exact (below_set5 HB2.out (Nat.le_refl _)).drew
        · have hneq := of_toList_no (by assumption)
          have HN2 := Lib.hid (mk_next HN.out (fun h => hneq (ext_of_pre HMM.out HML.out (by rw [HR.out]; exact h))))
          clear hneq
          go_roundw
          case rel => exact ⟨k + 1, by omega, by go_num, HN2, _, rfl⟩
          case measure => simp [intOf]; omega
      · have tg : decide ((m : Int) ≤ (s.size : Int) - p) = false := decide_eq_false (by omega)
        have HN2 := Lib.hid (mk_next HN.out (fun h => by have := pre_fits h; rw [HML.out, HLR.out] at this; omega))
        go_wp2
        go_quiet (fail)
        go_wp2
        go_roundw
        case rel => exact ⟨k + 1, by omega, by go_num, HN2, _, rfl⟩
        case measure => simp [intOf]; omega
    · have hke : k = 27 := by omega
      subst hke
      have HF := Lib.hid (mark_none HN.out)
      generalize hW2 : W.drewN _ = W2
      have RS : Res5 W2 w.heap.size (.int .i64 0) (.string ⟨#[]⟩) (.string ⟨#[]⟩) (.int .i64 0) (.int .i64 0) := by rw [← hW2]; exact R0.drewN _
      have RT : Res5 W2 (w.heap.size + 1) (.int .i64 0) (.string ⟨#[]⟩) (.string ⟨#[]⟩) (.int .i64 p) (.int .i64 p) := by rw [← hW2]; exact R1.drewN _
      have HB2 := Lib.hid (show Below w.heap.size w W2 by rw [← hW2]; exact below_drewN hbw _)
      clear hW2 R0 R1 hbw
      simp only [Int.cast_ofNat_Int]
      obtain ⟨⟨c0, c1, c2, c3, c4⟩, f0, f1, f2, f3, f4⟩ := RS
      obtain ⟨⟨d0, d1, d2, d3, d4⟩, g0, g1, g2, g3, g4⟩ := RT
      have RS : Res5 W2 w.heap.size _ _ _ _ _ := ⟨⟨c0, c1, c2, c3, c4⟩, f0, f1, f2, f3, f4⟩
      go_wp2
      refine bodyPost_ret (v := .agg #[.int .i64 0, .string ⟨#[]⟩, .string ⟨#[]⟩, .int .i64 p, .int .i64 p]) ((RS.set5 _ _ _ _ _).read31 rfl) rfl ⟨⟨_, rfl, ?_⟩, ?_⟩
      · rw [HX.out]
        exact .inr ⟨HF.out, _, _, _, rfl, by omega⟩
      · exact below_set5 HB2.out (Nat.le_refl _)

end Go.Proofs.Ytaaomjpkgpjegaa
