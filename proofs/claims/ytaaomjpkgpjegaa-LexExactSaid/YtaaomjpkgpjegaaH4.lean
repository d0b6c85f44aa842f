/- Walk of the document's own function on quoted texts. -/
import Derived.Test.YtaaomjpkgpjegaaH3
import Derived.Test.YtaaomjpkgpjegaaA9
namespace Go.Proofs.Ytaaomjpkgpjegaa
open Go Go.RowKit

theorem unesc_none {c : UInt8} (h1 : ¬ (c.toNat : Int) = 34) (h2 : ¬ (c.toNat : Int) = 92) (h3 : ¬ (c.toNat : Int) = 110) (h4 : ¬ (c.toNat : Int) = 116) : unesc c = none := by
  unfold unesc
  rw [if_neg (show ¬ c = 34 from u8_ne (n := 34) (by decide) h1), if_neg (show ¬ c = 92 from u8_ne (n := 92) (by decide) h2), if_neg (show ¬ c = 110 from u8_ne (n := 110) (by decide) h3), if_neg (show ¬ c = 116 from u8_ne (n := 116) (by decide) h4)]
theorem one_u8 (x : Int) : ∀ u ∈ (#[Value.int .u8 x] : Array Value).toList, u.oneCell' = true := by
  intro u hu; simp at hu; subst hu; rfl
theorem quo_ret {p n : Nat} {x : Int} {t : List UInt8} (h : x = ((p + n : Nat) : Int)) : Ending.returned (.tuple #[.string (strB t), .int .i64 x]) = .returned (quoEnd p (some (t, n))) := by rw [h]; rfl

set_option maxRecDepth 100000 in
set_option maxHeartbeats 2000000 in
theorem rquoted_any (s : ByteArray) (p : Nat) (hs : s.size ≤ 100000) (hp : p < s.size) (w : World) :
    Calls Try.prog 43 #[.string s, .int .i64 p] w fun e w' => e = .returned (quoEnd p (quoted (s.data.toList.drop p))) ∧ Below w.heap.size w w' := by
  have hsl : s.data.toList.length = s.size := by simp
  have HSL := Lib.hid hsl
  clear hsl
  have HI := Lib.hid (show quoScan (p + 1 - p) [] (s.data.toList.drop (p + 1)) = quoted (s.data.toList.drop p) by unfold quoted; rw [List.drop_drop, Nat.add_sub_cancel_left])
  go_enter Try.func43, Try.ntmps43
  go_wp2
  go_loopw [6, 7] (fun v i wr => QuoRel s p w.heap.size w v i wr) (fun _ i _ => s.size - (intOf i).toNat)
  case atStart => exact ⟨p + 1, [], by omega, by omega, by simp, by go_num, HI.out, World.ownsRow_nil _ _ _ _, Below.refl _ _⟩
  case round =>
    clear HI
    obtain ⟨q, acc, hpq, hqs, hacc, rfl, hsc, hown, hbel⟩ := hrel
    have HS := Lib.hid hsc
    have HO := Lib.hid hown
    have HB := Lib.hid hbel
    have hbs := hbel.size
    clear hsc hown hbel
    by_cases hlt : q < s.size
    · have HP := Lib.hid (pk_lt hlt)
      have HL := Lib.hid (show q < s.data.toList.length by rw [HSL.out]; exact hlt)
      by_cases h34 : (s[q].toNat : Int) = 34
      · have t1 : ((s[q].toNat : Int) == 34) = true := by rw [h34]; rfl
        have HQ := Lib.hid (quo_end (k := q - p) (acc := acc) HL.out (by rw [HP.out]; exact h34))
        have hcv := conv_row HO.out
        clear h34
        go_wp2
        go_ret2
        exact ⟨by rw [← HS.out, HQ.out]; exact quo_ret (by omega), HB.out⟩
      · have t1 : ((s[q].toNat : Int) == 34) = false := by simpa using h34
        by_cases h32 : (s[q].toNat : Int) < 32
        · have HQ := Lib.hid (quo_bad (k := q - p) (acc := acc) HL.out (by rw [HP.out]; exact h32))
          clear h34
          go_wp2
          go_ret2
          exact ⟨by rw [← HS.out, HQ.out]; rfl, HB.out⟩
        · by_cases h92 : (s[q].toNat : Int) = 92
          · have t2 : ((s[q].toNat : Int) == 92) = true := by rw [h92]; rfl
            have t3 : ¬ (s[q].toNat : Int) < 32 := h32
            by_cases hl2 : q + 1 < s.size
            · have HL2 := Lib.hid (show q + 1 < s.data.toList.length by rw [HSL.out]; exact hl2)
              have HP2 := Lib.hid (pk_lt hl2)
              have H92 := Lib.hid (show pk s.data.toList q = 92 by rw [HP.out]; exact h92)
              clear h34 h92
              by_cases hd : (s[q + 1].toNat : Int) = 34
              · have t0 := hd
                have t34 : ((s[q + 1].toNat : Int) == 34) = true := by rw [hd]; rfl
                have HX := Lib.hid (show (.int .u8 s[q + 1].toNat : Value) = .int .u8 (((34 : UInt8).toNat : Nat) : Int) by rw [hd]; rfl)
                have HQ := Lib.hid (quo_esc (k := q - p) (acc := acc) (d := 34) (e := 34) H92.out HL2.out (by rw [HP2.out]; exact hd) rfl)
                clear hd t0
                go_wp2_with (at_builtin; refine app_new rfl _ _ 48 rfl w.heap.size 5 (.int .u8 0) 1 1 Try.underlying48 infoByte rfl (by decide) _ _ _ rfl HO.out hbs #[.int .u8 s[q + 1].toNat] 1 1 rfl rfl (one_u8 _) (by omega) (by decide) ?_)
                intro v' w2 hown' hg
                have HO2 := Lib.hid hown'
                have HG := Lib.hid hg
                clear hown' hg
                go_wp2
                go_roundw
                case rel => exact quoRel_step (d := 2) (e := 34) HX.out hpq (by omega) (by omega) hacc (by rw [← HS.out, HQ.out, show q + 2 - p = q - p + 2 by omega]) HO.out HB.out hbs HO2.out HG.out (by go_num)
                case measure => simp [intOf]; omega
              have s34 : ((s[q + 1].toNat : Int) == 34) = false := by simpa using hd
              have N34 := Lib.hid hd
              clear hd
              by_cases hd : (s[q + 1].toNat : Int) = 92
              · have t0 := hd
                have t34 : ((s[q + 1].toNat : Int) == 34) = false := by rw [hd]; rfl
                have t92 : ((s[q + 1].toNat : Int) == 92) = true := by rw [hd]; rfl
                have HX := Lib.hid (show (.int .u8 s[q + 1].toNat : Value) = .int .u8 (((92 : UInt8).toNat : Nat) : Int) by rw [hd]; rfl)
                have HQ := Lib.hid (quo_esc (k := q - p) (acc := acc) (d := 92) (e := 92) H92.out HL2.out (by rw [HP2.out]; exact hd) rfl)
                clear hd t0
                go_wp2_with (at_builtin; refine app_new rfl _ _ 48 rfl w.heap.size 5 (.int .u8 0) 1 1 Try.underlying48 infoByte rfl (by decide) _ _ _ rfl HO.out hbs #[.int .u8 s[q + 1].toNat] 1 1 rfl rfl (one_u8 _) (by omega) (by decide) ?_)
                intro v' w2 hown' hg
                have HO2 := Lib.hid hown'
                have HG := Lib.hid hg
                clear hown' hg
                go_wp2
                go_roundw
                case rel => exact quoRel_step (d := 2) (e := 92) HX.out hpq (by omega) (by omega) hacc (by rw [← HS.out, HQ.out, show q + 2 - p = q - p + 2 by omega]) HO.out HB.out hbs HO2.out HG.out (by go_num)
                case measure => simp [intOf]; omega
              have s92 : ((s[q + 1].toNat : Int) == 92) = false := by simpa using hd
              have N92 := Lib.hid hd
              clear hd
              by_cases hd : (s[q + 1].toNat : Int) = 110
              · have t0 := hd
                have t34 : ((s[q + 1].toNat : Int) == 34) = false := by rw [hd]; rfl
                have t92 : ((s[q + 1].toNat : Int) == 92) = false := by rw [hd]; rfl
                have t110 : ((s[q + 1].toNat : Int) == 110) = true := by rw [hd]; rfl
                have HX := Lib.hid (show (.int .u8 10 : Value) = .int .u8 (((10 : UInt8).toNat : Nat) : Int) from rfl)
                have HQ := Lib.hid (quo_esc (k := q - p) (acc := acc) (d := 110) (e := 10) H92.out HL2.out (by rw [HP2.out]; exact hd) rfl)
                clear hd t0
                go_wp2_with (at_builtin; refine app_new rfl _ _ 48 rfl w.heap.size 5 (.int .u8 0) 1 1 Try.underlying48 infoByte rfl (by decide) _ _ _ rfl HO.out hbs #[.int .u8 10] 1 1 rfl rfl (one_u8 _) (by omega) (by decide) ?_)
                intro v' w2 hown' hg
                have HO2 := Lib.hid hown'
                have HG := Lib.hid hg
                clear hown' hg
                go_wp2
                go_roundw
                case rel => exact quoRel_step (d := 2) (e := 10) HX.out hpq (by omega) (by omega) hacc (by rw [← HS.out, HQ.out, show q + 2 - p = q - p + 2 by omega]) HO.out HB.out hbs HO2.out HG.out (by go_num)
                case measure => simp [intOf]; omega
              have s110 : ((s[q + 1].toNat : Int) == 110) = false := by simpa using hd
              have N110 := Lib.hid hd
              clear hd
              by_cases hd : (s[q + 1].toNat : Int) = 116
              · have t0 := hd
                have t34 : ((s[q + 1].toNat : Int) == 34) = false := by rw [hd]; rfl
                have t92 : ((s[q + 1].toNat : Int) == 92) = false := by rw [hd]; rfl
                have t110 : ((s[q + 1].toNat : Int) == 110) = false := by rw [hd]; rfl
                have t116 : ((s[q + 1].toNat : Int) == 116) = true := by rw [hd]; rfl
                have HX := Lib.hid (show (.int .u8 9 : Value) = .int .u8 (((9 : UInt8).toNat : Nat) : Int) from rfl)
                have HQ := Lib.hid (quo_esc (k := q - p) (acc := acc) (d := 116) (e := 9) H92.out HL2.out (by rw [HP2.out]; exact hd) rfl)
                clear hd t0
                go_wp2_with (at_builtin; refine app_new rfl _ _ 48 rfl w.heap.size 5 (.int .u8 0) 1 1 Try.underlying48 infoByte rfl (by decide) _ _ _ rfl HO.out hbs #[.int .u8 9] 1 1 rfl rfl (one_u8 _) (by omega) (by decide) ?_)
                intro v' w2 hown' hg
                have HO2 := Lib.hid hown'
                have HG := Lib.hid hg
                clear hown' hg
                go_wp2
                go_roundw
                case rel => exact quoRel_step (d := 2) (e := 9) HX.out hpq (by omega) (by omega) hacc (by rw [← HS.out, HQ.out, show q + 2 - p = q - p + 2 by omega]) HO.out HB.out hbs HO2.out HG.out (by go_num)
                case measure => simp [intOf]; omega
              have s116 : ((s[q + 1].toNat : Int) == 116) = false := by simpa using hd
              have N116 := Lib.hid hd
              clear hd
              have HQ := Lib.hid (quo_esc_bad (k := q - p) (acc := acc) (d := s[q + 1]'hl2) H92.out HL2.out HP2.out (unesc_none N34.out N92.out N110.out N116.out))
              go_wp2
              go_ret2
              exact ⟨by rw [← HS.out, HQ.out]; rfl, HB.out⟩
            · have HQ := Lib.hid (quo_esc_out (k := q - p) (acc := acc) HL.out (by rw [HP.out]; exact h92) (by rw [HSL.out]; omega))
              clear h34 h92
              go_wp2
              go_ret2
              exact ⟨by rw [← HS.out, HQ.out]; rfl, HB.out⟩
          · have t2 : ((s[q].toNat : Int) == 92) = false := by simpa using h92
            have HQ := Lib.hid (quo_on (k := q - p) (acc := acc) (c := s[q]) HL.out HP.out (by rw [HP.out]; omega) (by rw [HP.out]; exact h34) (by rw [HP.out]; exact h92))
            clear h34 h92
            go_wp2_with (at_builtin; refine app_new rfl _ _ 48 rfl w.heap.size 5 (.int .u8 0) 1 1 Try.underlying48 infoByte rfl (by decide) _ _ _ rfl HO.out hbs #[.int .u8 s[q].toNat] 1 1 rfl rfl (one_u8 _) (by omega) (by decide) ?_)
            intro v' w2 hown' hg
            have HO2 := Lib.hid hown'
            have HG := Lib.hid hg
            clear hown' hg
            go_wp2
            go_roundw
            case rel => exact quoRel_step (d := 1) (e := s[q]) rfl hpq (by omega) (by omega) hacc (by rw [← HS.out, HQ.out, show q + 1 - p = q - p + 1 by omega]) HO.out HB.out hbs HO2.out HG.out (by go_num)
            case measure => simp [intOf]; omega
    · go_wp2
      go_ret2
      exact ⟨by rw [← HS.out, quo_out (by rw [HSL.out]; omega)]; rfl, HB.out⟩

end Go.Proofs.Ytaaomjpkgpjegaa
