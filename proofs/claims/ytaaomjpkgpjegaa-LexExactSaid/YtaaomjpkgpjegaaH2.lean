/- Walk of the document's own function on blanks. -/
import Derived.Test.YtaaomjpkgpjegaaH1
namespace Go.Proofs.Ytaaomjpkgpjegaa
open Go.RowKit

theorem rskip_blank {L : List UInt8} {q : Nat} (h : q < L.length) (hc : blankB L[q] = true) : q + skip false (L.drop q) = q + 1 + skip false (L.drop (q + 1)) := by
  rw [List.drop_eq_getElem_cons h, skip, if_pos hc]; omega
theorem rskip_hash {L : List UInt8} {q : Nat} (h : q < L.length) (hc : L[q] = 35) : q + skip false (L.drop q) = q + skip true (L.drop q) := by
  rw [List.drop_eq_getElem_cons h, hc]; rfl
theorem rskip_in {L : List UInt8} {q : Nat} (h : q < L.length) (hc : L[q] ≠ 10) : q + skip true (L.drop q) = q + 1 + skip true (L.drop (q + 1)) := by
  rw [List.drop_eq_getElem_cons h, skip, if_neg hc]; omega
theorem rskip_out {L : List UInt8} {q : Nat} (h : q < L.length) (hc : L[q] = 10) : q + skip true (L.drop q) = q + skip false (L.drop q) := by
  rw [List.drop_eq_getElem_cons h, hc]; rfl
theorem rskip_end {L : List UInt8} {q : Nat} (m : Bool) (h : L.length ≤ q) : q + skip m (L.drop q) = q := by
  rw [List.drop_of_length_le h]; cases m <;> rfl
theorem rskip_stop {L : List UInt8} {q : Nat} (h : q < L.length) (hc : blankB L[q] = false) (h35 : L[q] ≠ 35) : q + skip false (L.drop q) = q := by
  rw [List.drop_eq_getElem_cons h, skip, hc, if_neg (by decide), if_neg h35]; rfl
theorem blankB_yes {c : UInt8} (h : (c.toNat : Int) = 32 ∨ (c.toNat : Int) = 9 ∨ (c.toNat : Int) = 13 ∨ (c.toNat : Int) = 10) : blankB c = true := by
  rcases h with h | h | h | h
  · rw [u8_of (n := 32) (by omega) h]; rfl
  · rw [u8_of (n := 9) (by omega) h]; rfl
  · rw [u8_of (n := 13) (by omega) h]; rfl
  · rw [u8_of (n := 10) (by omega) h]; rfl
theorem blankB_never {c : UInt8} (h1 : ((c.toNat : Int) == 32) = false) (h2 : ((c.toNat : Int) == 9) = false) (h3 : ((c.toNat : Int) == 13) = false) (h4 : ((c.toNat : Int) == 10) = false) : blankB c = false := by
  unfold blankB
  have a : c ≠ 32 := by rintro rfl; exact absurd h1 (by decide)
  have b : c ≠ 9 := by rintro rfl; exact absurd h2 (by decide)
  have d : c ≠ 13 := by rintro rfl; exact absurd h3 (by decide)
  have e : c ≠ 10 := by rintro rfl; exact absurd h4 (by decide)
  simp [a, b, d, e]
theorem byte_is {s : ByteArray} {q n : Nat} (_ : q < s.size) (hl : q < s.data.toList.length) (hn : n < 256) (hc : (s[q].toNat : Int) = n) : s.data.toList[q] = UInt8.ofNat n := u8_of hn hc
theorem byte_no {s : ByteArray} {q n : Nat} (_ : q < s.size) (hl : q < s.data.toList.length) (hn : n < 256) (hc : ¬ (s[q].toNat : Int) = n) : s.data.toList[q] ≠ UInt8.ofNat n := by
  intro e
  apply hc
  have : s.data.toList[q].toNat = s[q].toNat := rfl
  rw [← this, e, UInt8.toNat_ofNat']
  omega

set_option maxHeartbeats 1600000 in
theorem rblank_any (s : ByteArray) (p : Nat) (hs : s.size ≤ 100000) (hp : p ≤ s.size) (w : World) :
    Calls Try.prog 30 #[.string s, .int .i64 p] w fun e w' => e = .returned (.int .i64 ((p + skip false (s.data.toList.drop p) : Nat) : Int)) ∧ w = w' := by
  have hsl : s.data.toList.length = s.size := by simp
  have HSL := Lib.hid hsl
  clear hsl
  obtain ⟨T, HT⟩ := name_it (p + skip false (s.data.toList.drop p))
  rw [HT.out]
  go_enter Try.func30, Try.ntmps30
  go_wp2
  go_loop [1] (fun i => ∃ q : Nat, q ≤ s.size ∧ RowKit.Hid (q + skip false (s.data.toList.drop q) = T) ∧ i = .int .i64 q) (fun i => s.size - (intOf i).toNat)
  case atStart => exact ⟨p, hp, HT, rfl⟩
  case round =>
    clear HT
    obtain ⟨q, hqs, HI, rfl⟩ := hrel
    by_cases hlt : q < s.size
    · have HL := Lib.hid (show q < s.data.toList.length by rw [HSL.out]; exact hlt)
      by_cases h35 : (s[q].toNat : Int) = 35
      · have t1 : ((s[q].toNat : Int) == 32) = false := by rw [h35]; rfl
        have t2 : ((s[q].toNat : Int) == 9) = false := by rw [h35]; rfl
        have t3 : ((s[q].toNat : Int) == 13) = false := by rw [h35]; rfl
        have t4 : ((s[q].toNat : Int) == 10) = false := by rw [h35]; rfl
        have t5 : ((s[q].toNat : Int) == 35) = true := by rw [h35]; rfl
        have H35 := Lib.hid h35
        have HR := Lib.hid (show q + skip true (s.data.toList.drop q) = T by rw [← rskip_hash HL.out (byte_is (n := 35) hlt HL.out (by decide) h35), HI.out])
        clear h35
        go_wp2
        go_loop [1] (fun i => ∃ r : Nat, q ≤ r ∧ r ≤ s.size ∧ RowKit.Hid (r + skip true (s.data.toList.drop r) = T) ∧ i = .int .i64 r) (fun i => s.size - (intOf i).toNat)
        case atStart => exact ⟨q, by omega, by omega, HR, rfl⟩
        case round =>
          clear HR t1 t2 t3 t4 t5
          obtain ⟨r, hqr, hrs, HR, rfl⟩ := hrel
          by_cases hlr : r < s.size
          · have HLr := Lib.hid (show r < s.data.toList.length by rw [HSL.out]; exact hlr)
            by_cases h10 : (s[r].toNat : Int) = 10
            · have hne : q ≠ r := by
                rintro rfl
                rw [H35.out] at h10
                exact absurd h10 (by decide)
              have hqr' : q < r := by omega
              have t1 : ((s[r].toNat : Int) != 10) = false := by rw [h10]; rfl
              have HN := Lib.hid (show r + skip false (s.data.toList.drop r) = T by rw [← rskip_out HLr.out (byte_is (n := 10) hlr HLr.out (by decide) h10), HR.out])
              clear h10 hne
              go_wp2
              go_round
              case rel => exact ⟨r, hrs, HN, rfl⟩
              case measure => simp [intOf]; omega
            · have t1 : ((s[r].toNat : Int) != 10) = true := by simpa using h10
              have HN := Lib.hid (show r + 1 + skip true (s.data.toList.drop (r + 1)) = T by rw [← rskip_in HLr.out (byte_no (n := 10) hlr HLr.out (by decide) h10), HR.out])
              clear h10
              go_wp2
              go_round
              case rel => exact ⟨r + 1, by omega, by omega, HN, by go_num⟩
              case measure => simp [intOf]; omega
          · have hqr' : q < r := by omega
            have HN := Lib.hid (show r + skip false (s.data.toList.drop r) = T by rw [rskip_end false (by rw [HSL.out]; omega), ← HR.out, rskip_end true (by rw [HSL.out]; omega)])
            go_wp2
            go_round
            case rel => exact ⟨r, hrs, HN, rfl⟩
            case measure => simp [intOf]; omega
      · have t5 : ((s[q].toNat : Int) == 35) = false := by simpa using h35
        have HB := Lib.hid (byte_no (n := 35) hlt HL.out (by decide) h35)
        clear h35
        go_wp2
        all_goals first
          | (go_round
             case rel => exact ⟨q + 1, by omega, Lib.hid (by rw [← HI.out, ← rskip_blank HL.out (show blankB s[q] = true from blankB_yes (by simp only [beq_iff_eq] at *; omega))]), by go_num⟩
             case measure => simp [intOf]; omega)
          | (go_ret; exact ⟨ret_i64 (by rw [← HI.out, rskip_stop HL.out (show blankB s[q] = false from blankB_never (by assumption) (by assumption) (by assumption) (by assumption)) HB.out]), rfl⟩)
    · go_wp2
      go_ret
      exact ⟨ret_i64 (by rw [← HI.out, rskip_end false (by rw [HSL.out]; omega)]), rfl⟩

theorem rtriples_any (lang : Int) (w : World) : Calls Try.prog 24 #[.int .i64 lang] w fun e w' => e = .returned (.bool (lang == 1)) ∧ w = w' := by
  go_enter Try.func24, Try.ntmps24
  go_wp2
  all_goals (go_ret; exact ⟨ret_bool (by simp_all), rfl⟩)

end Go.Proofs.Ytaaomjpkgpjegaa
