/- The program's decimals: what a text is read as, and whether it is a decimal (the walks). -/
import Derived.Test.YtmhjbicbdahllaaGreatDoorVF
namespace Go.Proofs.YtmhjbicbdahllaaGreatDoor
open Go Go.RowKit Go.Shelf Go.Lib

/-- The library's own number that strings.Cut reads lies in its cell. -/
def GlobB (w : World) : Prop := ∃ m : Int, w.cell? ⟨Tryz.lays145_ren.g 1, 0, none⟩ = some (.int .i64 m)
theorem glob_under {w w' : World} (h : GlobB w) (hb : Below w.heap.size w w') : GlobB w' := by
  obtain ⟨m, hm⟩ := h
  refine ⟨m, (hb.cell (p := ⟨Tryz.lays145_ren.g 1, 0, none⟩) ?_).trans hm⟩
  refine Classical.byContradiction fun hn => ?_
  have : w.heap[Tryz.lays145_ren.g 1]? = none := Array.getElem?_eq_none (by simpa using hn)
  unfold World.cell? at hm
  simp only [this] at hm
  cases hm
theorem glob_drewN {w : World} (h : GlobB w) (n : Nat) : GlobB (w.drewN n) := h
theorem pre_of {s : ByteArray} (c : UInt8) : Lib.hasPrefix s.data.toList [c] = (s.data.toList.head? == some c) := by
  unfold Lib.hasPrefix
  cases s.data.toList with
  | nil => rfl
  | cons d l => simp [List.isPrefixOf, Bool.beq_eq_decide_eq, eq_comm]
def ProgIs (s : ByteArray) (w : World) (e : Ending) (w' : World) : Prop := Below w.heap.size w w' ∧ e = .returned (.tuple #[.string (readT s).1, .int .i64 (readT s).2])
theorem below_drewN {b : Nat} {w w' : World} (h : Below b w w') (m : Nat) : Below b w (w'.drewN m) := ⟨h.os, h.tape, h.output, h.size, h.block⟩

set_option maxRecDepth 100000 in
set_option maxHeartbeats 1000000 in
theorem progRead_any (s : ByteArray) (hs : s.size ≤ 100000) (w : World) (hg : GlobB w) : Calls Tryz.prog 123 #[.string s] w (ProgIs s w) := by
  obtain ⟨t, HT⟩ := name_itV (sgnT s)
  have ht : t.size ≤ 100000 := by rw [← HT.out]; exact Nat.le_trans (sgn_size s) hs
  obtain ⟨sb, HSB⟩ := name_itV (sgnB s)
  obtain ⟨c1, HC1⟩ := name_itV (Lib.cut t.data.toList [46]).1
  obtain ⟨c2, HC2⟩ := name_itV (Lib.cut t.data.toList [46]).2.1
  obtain ⟨c3, HC3⟩ := name_itV (Lib.cut t.data.toList [46]).2.2
  have hread := Lib.hid (show ((bK (progT s).1 : ByteArray), (progT s).2) = readT s from prog_read s)
  have hprog := Lib.hid (show progT s = (if numL c1 = true ∧ (c3 = true → numL c2 = true) then toldT sb (c1 ++ c2) c2.length else ([], 6)) from by
    unfold progT; simp only [HT.out, HSB.out, HC1.out, HC2.out, HC3.out])
  have hlen := Lib.hid (show c1.length + c2.length ≤ t.size from by
    rw [← HC1.out, ← HC2.out, ← data_len t]
    rcases split_dot t.data.toList with h | ⟨a, b, h, hab⟩
    · rw [cut_no h]; simp
    · rw [h, cut_yes hab]; simp)
  have hpm := Lib.hid (fun W : World => prefix_any s ⟨#[45]⟩ W)
  have hpp := Lib.hid (fun W : World => prefix_any s ⟨#[43]⟩ W)
  have hm1 := Lib.hid (show Lib.hasPrefix s.data.toList (⟨#[45]⟩ : ByteArray).data.toList = sb from by
    rw [← HSB.out]; exact pre_of 45)
  have hm2 := Lib.hid (show (sb || Lib.hasPrefix s.data.toList (⟨#[43]⟩ : ByteArray).data.toList) = sgnY s from by
    rw [← HSB.out, show Lib.hasPrefix s.data.toList (⟨#[43]⟩ : ByteArray).data.toList = (s.data.toList.head? == some 43) from pre_of 43]; rfl)
  obtain ⟨pp, HPP⟩ := name_itV (Lib.hasPrefix s.data.toList (⟨#[43]⟩ : ByteArray).data.toList)
  have hpm2 := Lib.hid (fun W : World => show Calls Tryz.prog 143 #[.string s, .string ⟨#[45]⟩] W fun e w' => e = .returned (.bool sb) ∧ w' = W from by have := hpm.out W; rwa [hm1.out] at this)
  have hpp2 := Lib.hid (fun W : World => show Calls Tryz.prog 143 #[.string s, .string ⟨#[43]⟩] W fun e w' => e = .returned (.bool pp) ∧ w' = W from by have := hpp.out W; rwa [HPP.out] at this)
  have hm3 := Lib.hid (show (sb || pp) = sgnY s from by rw [← HPP.out]; exact hm2.out)
  have hsx := Lib.hid (show t = cond (sb || pp) (s.extract 1 s.size) s from by rw [hm3.out, ← HT.out]; rfl)
  have hpos := Lib.hid (show (sb || pp) = true → 0 < s.size from by
    intro h
    rw [hm3.out] at h
    refine Classical.byContradiction fun h0 => ?_
    rw [(sgn_empty h0).2.1] at h; cases h)
  obtain ⟨m, hm⟩ := hg
  have HCT := Lib.hid (fun (W : World) (hW : W.cell? ⟨Tryz.lays145_ren.g 1, 0, none⟩ = some (.int .i64 m)) => show Calls Tryz.prog 144 #[.string t, .string ⟨#[46]⟩] W fun e w' => e = .returned (.tuple #[.string (bK c1), .string (bK c2), .bool c3]) ∧ ∃ n, w' = W.drewN n from by
    have := cut_any t ⟨#[46]⟩ m W (by omega) hW
    rw [show (⟨#[46]⟩ : ByteArray).data.toList = [46] from rfl, HC1.out, HC2.out, HC3.out] at this
    exact this)
  have HM := Lib.hid hm
  have HB0 := Lib.hid (Below.refl w.heap.size w)
  clear hm hpm hpp hm1 hm2 HPP HSB HT
  go_enter Tryz.func123, Tryz.ntmps123
  go_wp2_with fail; refine (hpm2.out _).mono ?_; rintro e w' ⟨rfl, rfl⟩
  go_upto_region 2 with fail
  go_cut [14] (fun s14 wx => s14 = .bool (sb || pp) ∧ wx = w')
  case first =>
    cases sb with
    | true =>
      go_wp2_with fail
      go_meet
      exact ⟨rfl, rfl⟩
    | false =>
      go_wp2_with fail; refine (hpp2.out _).mono ?_; rintro e w' ⟨rfl, rfl⟩
      go_wp2_with fail
      go_meet
      exact ⟨rfl, rfl⟩
  case rest =>
    obtain ⟨h14, rfl⟩ := hcut
    go_upto_if 14 with fail
    go_cut [0] (fun s0 wx => s0 = .string t ∧ wx = wc)
    case first =>
      obtain ⟨sy, HSY⟩ := name_itV (sb || pp)
      rw [HSY.out] at h14 hpos hsx
      subst h14
      cases sy with
      | true =>
        have hp1 := hpos.out rfl
        have hsx2 := Lib.hid (show s.extract 1 s.size = t from hsx.out.symm)
        have e1 : (1 : Int) ≤ (s.size : Int) := by omega
        go_wp2_with fail
        go_meet
        exact ⟨by rw [hsx2.out], rfl⟩
      | false =>
        have hsx2 := Lib.hid (show s = t from hsx.out.symm)
        go_wp2_with fail
        go_meet
        exact ⟨by rw [hsx2.out], rfl⟩
    case rest =>
      obtain ⟨rfl, rfl⟩ := hcut
      clear h14
      go_wp2_with fail; refine (HCT.out _ HM.out).mono ?_; rintro e w1 ⟨rfl, k, hw1⟩
      have HB1 := below_drewN HB0.out k
      rw [← hw1] at HB1
      have HB1 := Lib.hid HB1
      clear hw1
      have hl2 := hlen.out
      have hb2s : (bK c2).size = c2.length := bK_size c2
      obtain ⟨l2, HL2⟩ := name_itV c2.length
      rw [HL2.out] at hl2 hb2s
      have htold := Lib.hid (fun W : World => show Calls Tryz.prog 146 #[.bool sb, .string (bK c1 ++ bK c2), .int .i64 ((bK c2).size : Int)] W (ToldIs sb (c1 ++ c2) c2.length W) from by
        rw [bK_app, hb2s, ← HL2.out]
        exact told_any sb (c1 ++ c2) c2.length (by rw [List.length_append, HL2.out]; omega) (by rw [HL2.out]; omega) W)
      have hn1 := Lib.hid (fun W : World => show Calls Tryz.prog 145 #[.string (bK c1)] W (ToldB (numL c1) W) from by
        have := numeral_any (bK c1) W (by rw [bK_size]; omega)
        rwa [numT_eq, bK_data] at this)
      have hn2 := Lib.hid (fun W : World => show Calls Tryz.prog 145 #[.string (bK c2)] W (ToldB (numL c2) W) from by
        have := numeral_any (bK c2) W (by omega)
        rwa [numT_eq, bK_data] at this)
      have hadd : ∀ W : World, (Op.stringOp .add (bK c1) (bK c2)).run Tryz.prog W = .ok (.string (bK c1 ++ bK c2)) W := fun W => run_string_add_sum W _ _ (by rw [hb2s, bK_size]; omega)
      have hbad := Lib.hid (show ¬ (numL c1 = true ∧ (c3 = true → numL c2 = true)) → readT s = (⟨#[]⟩, 6) from fun h => by
        rw [← hread.out, hprog.out, if_neg h]; rfl)
      have hgood := Lib.hid (show (numL c1 = true ∧ (c3 = true → numL c2 = true)) → readT s = (bK (toldT sb (c1 ++ c2) c2.length).1, (toldT sb (c1 ++ c2) c2.length).2) from fun h => by
        rw [← hread.out, hprog.out, if_pos h])
      obtain ⟨x1, HX1⟩ := name_itV (numL c1)
      obtain ⟨x2, HX2⟩ := name_itV (numL c2)
      obtain ⟨b1, HBb1⟩ := name_itV (bK c1)
      obtain ⟨b2, HBb2⟩ := name_itV (bK c2)
      rw [HX1.out] at hn1 hbad hgood
      rw [HX2.out] at hn2 hbad hgood
      rw [HBb1.out] at hn1 hadd htold
      rw [HBb2.out] at hn2 hadd htold hb2s
      rw [HBb1.out, HBb2.out]
      clear hb2s
      cases x1 with
      | false =>
        have hr := Lib.hid (hbad.out (fun h => by cases h.1))
        go_wp2_with fail; refine (hn1.out _).mono ?_; rintro e w2 ⟨rfl, hb2⟩
        have HB2 := Lib.hid (HB1.out.trans (hb2.mono HB1.out.size))
        clear hb2
        go_wp2_with fail
        exact bodyPost_ret (v := .tuple #[.string ⟨#[]⟩, .int .i64 6]) (by simp [results, Tryz.results123, go_sem]) rfl ⟨HB2.out, by rw [hr.out]⟩
      | true =>
        cases c3 with
        | false =>
          have hr := Lib.hid (hgood.out ⟨rfl, fun h => by cases h⟩)
          go_wp2_with fail; refine (hn1.out _).mono ?_; rintro e w2 ⟨rfl, hb2⟩
          have HB2 := Lib.hid (HB1.out.trans (hb2.mono HB1.out.size))
          clear hb2
          go_wp2_with fail; refine (htold.out _).mono ?_; rintro e w3 ⟨hb3, rfl⟩
          have HB3 := Lib.hid (HB2.out.trans (hb3.mono HB2.out.size))
          clear hb3
          obtain ⟨r1, HR1⟩ := name_itV (bK (toldT sb (c1 ++ c2) c2.length).1)
          obtain ⟨r2, HR2⟩ := name_itV (toldT sb (c1 ++ c2) c2.length).2
          rw [HR1.out, HR2.out] at hr
          rw [HR1.out, HR2.out]
          go_wp2_with fail
          exact bodyPost_ret (v := .tuple #[.string r1, .int .i64 r2]) (by simp [results, Tryz.results123, go_sem]) rfl ⟨HB3.out, by rw [hr.out]⟩
        | true =>
          cases x2 with
          | false =>
            have hr := Lib.hid (hbad.out (fun h => by cases h.2 rfl))
            go_wp2_with fail; refine (hn1.out _).mono ?_; rintro e w2 ⟨rfl, hb2⟩
            have HB2 := Lib.hid (HB1.out.trans (hb2.mono HB1.out.size))
            clear hb2
            go_wp2_with fail; refine (hn2.out _).mono ?_; rintro e w3 ⟨rfl, hb3⟩
            have HB3 := Lib.hid (HB2.out.trans (hb3.mono HB2.out.size))
            clear hb3
            go_wp2_with fail
            exact bodyPost_ret (v := .tuple #[.string ⟨#[]⟩, .int .i64 6]) (by simp [results, Tryz.results123, go_sem]) rfl ⟨HB3.out, by rw [hr.out]⟩
          | true =>
            have hr := Lib.hid (hgood.out ⟨rfl, fun h => rfl⟩)
            go_wp2_with fail; refine (hn1.out _).mono ?_; rintro e w2 ⟨rfl, hb2⟩
            have HB2 := Lib.hid (HB1.out.trans (hb2.mono HB1.out.size))
            clear hb2
            go_wp2_with fail; refine (hn2.out _).mono ?_; rintro e w3 ⟨rfl, hb3⟩
            have HB3 := Lib.hid (HB2.out.trans (hb3.mono HB2.out.size))
            clear hb3
            go_wp2_with fail; refine (htold.out _).mono ?_; rintro e w4 ⟨hb4, rfl⟩
            have HB4 := Lib.hid (HB3.out.trans (hb4.mono HB3.out.size))
            clear hb4
            obtain ⟨r1, HR1⟩ := name_itV (bK (toldT sb (c1 ++ c2) c2.length).1)
            obtain ⟨r2, HR2⟩ := name_itV (toldT sb (c1 ++ c2) c2.length).2
            rw [HR1.out, HR2.out] at hr
            rw [HR1.out, HR2.out]
            go_wp2_with fail
            exact bodyPost_ret (v := .tuple #[.string r1, .int .i64 r2]) (by simp [results, Tryz.results123, go_sem]) rfl ⟨HB4.out, by rw [hr.out]⟩

/-- A text that is read as itself has 62 bytes at most. -/
theorem told_le (neg : Bool) (d : List UInt8) (sc : Nat) : (toldT neg d sc).1.length ≤ 62 := by
  unfold toldT
  split
  · simp
  · split
    · simp
    · rename_i h _
      have h1 : (wholeT d sc).length ≤ 40 := by omega
      have h2 : (partT d sc).length ≤ 20 := by omega
      simp only [List.length_append]
      have e1 : (if neg = true then [(45 : UInt8)] else []).length ≤ 1 := by split <;> simp
      have e2 : (if wholeT d sc = [] then [(48 : UInt8)] else wholeT d sc).length ≤ 40 := by split; exact (by decide); exact h1
      have e3 : (if partT d sc = [] then [(48 : UInt8)] else partT d sc).length ≤ 20 := by split; exact (by decide); exact h2
      simp only [List.length_cons, List.length_nil]
      omega
theorem dec_long {s : ByteArray} (h : 62 < s.size) : decB s = false := by
  unfold decB
  rw [← prog_read s]
  have h1 : decide ((⟨(progT s).1.toArray⟩ : ByteArray) = s) = false := decide_eq_false fun e => by
    have h2 : (progT s).1.length ≤ 62 := by
      unfold progT
      simp only
      split
      · exact told_le _ _ _
      · simp
    rw [← e] at h
    simp [ByteArray.size] at h
    omega
  simp only [h1, Bool.and_false]
set_option maxRecDepth 100000 in
set_option maxHeartbeats 1000000 in
theorem dec_any (s : ByteArray) (hs : s.size ≤ 9223372036854775807) (w : World) (hg : GlobB w) : Calls Tryz.prog 98 #[.string s] w (ToldB (decB s) w) := by
  go_enter Tryz.func98, Tryz.ntmps98
  by_cases hl : 62 < s.size
  · have hd := Lib.hid (dec_long hl)
    have e1 : (62 : Int) < (s.size : Int) := by omega
    go_wp2_with fail
    go_ret
    exact ⟨ret_b hd.out.symm, Below.refl _ _⟩
  · have e1 : ¬ (62 : Int) < (s.size : Int) := by omega
    have hrd := Lib.hid (progRead_any s (by omega) w hg)
    go_wp2_with fail
    refine hrd.out.mono ?_
    rintro e w1 ⟨hb, rfl⟩
    have HB := Lib.hid hb
    obtain ⟨r1, H1⟩ := name_itV (readT s).1
    obtain ⟨r2, H2⟩ := name_itV (readT s).2
    rw [H1.out, H2.out]
    have hd := Lib.hid (show decB s = (decide (r2 = 0) && decide (r1 = s)) from by unfold decB; rw [H1.out, H2.out])
    clear hb
    by_cases h2 : r2 = 0
    · have hf := Lib.hid (show (r1.toList == s.toList) = decB s from by
        rw [hd.out, decide_eq_true h2]
        by_cases h1 : r1 = s
        · rw [decide_eq_true h1, h1]; simp
        · rw [decide_eq_false h1, strV_ne h1]; rfl)
      clear H2
      subst h2
      go_wp2_with fail
      go_ret
      exact ⟨ret_b hf.out, HB.out⟩
    · have hf := Lib.hid (show false = decB s from by rw [hd.out, decide_eq_false h2]; rfl)
      go_wp2_with fail
      go_ret
      exact ⟨ret_b hf.out, HB.out⟩
end Go.Proofs.YtmhjbicbdahllaaGreatDoor
