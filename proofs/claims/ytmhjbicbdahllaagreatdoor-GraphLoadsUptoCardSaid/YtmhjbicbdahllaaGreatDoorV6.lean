/- Names: the program's own test and the reference's. -/
import Derived.Test.YtmhjbicbdahllaaGreatDoorV5
namespace Go.Proofs.YtmhjbicbdahllaaGreatDoor
open Go Go.RowKit

def letN (x : Nat) : Bool := decide ((97 ≤ x ∧ x ≤ 122) ∨ (65 ≤ x ∧ x ≤ 90) ∨ x = 95)
def digN (x : Nat) : Bool := decide (48 ≤ x ∧ x ≤ 57)
def nameC (c : UInt8) : Bool := letN c.toNat || digN c.toNat
/-- May a text be a name? -/
def nameB (s : ByteArray) : Bool := decide (1 ≤ s.size ∧ s.size ≤ 64) && ((s.data.toList.head?.map fun c => !digN c.toNat).getD false && s.data.toList.all nameC)
theorem head_data {s : ByteArray} (h : 0 < s.size) : s.data.toList.head? = some (s[0]'h) := by
  have := data_at s 0 h
  rw [List.head?_eq_getElem?]
  exact this
theorem name_size {s : ByteArray} (h : ¬ (1 ≤ s.size ∧ s.size ≤ 64)) : nameB s = false := by unfold nameB; simp only [decide_eq_false h]; rfl
theorem name_no {s : ByteArray} {k : Nat} {c : UInt8} (h : s.data.toList[k]? = some c) (hc : nameC c = false) : nameB s = false := by
  unfold nameB; rw [all_no h hc]; simp
theorem name_dig {s : ByteArray} {c : UInt8} (h : s.data.toList[0]? = some c) (hc : digN c.toNat = true) : nameB s = false := by
  unfold nameB
  rw [List.head?_eq_getElem?, h]
  simp [hc]
theorem name_yes {s : ByteArray} (h1 : 1 ≤ s.size) (h2 : s.size ≤ 64) (h0 : ∀ c, s.data.toList[0]? = some c → digN c.toNat = false) (ha : s.data.toList.all nameC = true) : nameB s = true := by
  unfold nameB
  rw [ha, head_data (by omega)]
  have := h0 _ (data_at s 0 (by omega))
  simp [h1, h2, this]

set_option maxRecDepth 100000 in
set_option maxHeartbeats 2000000 in
theorem name_any (s : ByteArray) (hs : s.size ≤ 9223372036854775807) (w : World) : Calls Tryz.prog 100 #[.string s] w fun e w' => e = .returned (.bool (nameB s)) ∧ w' = w := by
  go_enter Tryz.func100, Tryz.ntmps100
  go_wp2_with fail
  go_loop [8] (fun i => ∃ k : Nat, k ≤ s.size ∧ i = .int .i64 (k : Nat) ∧ Hid ((s.data.toList.take k).all nameC = true ∧ ∀ c, 0 < k → s.data.toList[0]? = some c → digN c.toNat = false)) (fun i => s.size - (intOf i).toNat)
  case atStart => exact ⟨0, by omega, rfl, Lib.hid ⟨by simp, fun c h => absurd h (by omega)⟩⟩
  case round =>
    obtain ⟨k, hk, rfl, hall⟩ := hrel
    by_cases hlt : k < s.size
    · have hc := Lib.hid (data_at s k hlt)
      obtain ⟨x, hx⟩ : ∃ x : Nat, s[k].toNat = x := ⟨_, rfl⟩
      have HX := Lib.hid hx
      have hxb : x < 256 := by rw [← hx]; exact s[k].toNat_lt
      go_upto_region 5 with fail
      go_cut [5] (fun s5 wx => s5 = .bool (letN x) ∧ wx = w)
      case first =>
        by_cases a1 : 97 ≤ x
        · by_cases a2 : x ≤ 122
          · have e1 : decide ((97 : Int) ≤ x) = true := decide_eq_true (by omega)
            have e2 : decide ((x : Int) ≤ 122) = true := decide_eq_true (by omega)
            have hl : letN x = true := decide_eq_true (.inl ⟨a1, a2⟩)
            go_wp2_with fail
            go_meet
            exact ⟨by rw [hl], rfl⟩
          · have e1 : decide ((97 : Int) ≤ x) = true := decide_eq_true (by omega)
            have e2 : decide ((x : Int) ≤ 122) = false := decide_eq_false (by omega)
            have e3 : decide ((65 : Int) ≤ x) = true := decide_eq_true (by omega)
            have e4 : decide ((x : Int) ≤ 90) = false := decide_eq_false (by omega)
            have e5 : ((x : Int) == 95) = false := by simp; omega
            have hl : letN x = false := decide_eq_false (by omega)
            go_wp2_with fail
            go_meet
            exact ⟨by rw [hl], rfl⟩
        · have e1 : decide ((97 : Int) ≤ x) = false := decide_eq_false (by omega)
          by_cases b1 : 65 ≤ x
          · have e3 : decide ((65 : Int) ≤ x) = true := decide_eq_true (by omega)
            by_cases b2 : x ≤ 90
            · have e4 : decide ((x : Int) ≤ 90) = true := decide_eq_true (by omega)
              have hl : letN x = true := decide_eq_true (.inr (.inl ⟨b1, b2⟩))
              go_wp2_with fail
              go_meet
              exact ⟨by rw [hl], rfl⟩
            · have e4 : decide ((x : Int) ≤ 90) = false := decide_eq_false (by omega)
              by_cases c1 : x = 95
              · have e5 : ((x : Int) == 95) = true := by simp; omega
                have hl : letN x = true := decide_eq_true (.inr (.inr c1))
                clear c1
                go_wp2_with fail
                go_meet
                exact ⟨by rw [hl], rfl⟩
              · have e5 : ((x : Int) == 95) = false := by simp; omega
                have hl : letN x = false := decide_eq_false (by omega)
                go_wp2_with fail
                go_meet
                exact ⟨by rw [hl], rfl⟩
          · have e3 : decide ((65 : Int) ≤ x) = false := decide_eq_false (by omega)
            have e5 : ((x : Int) == 95) = false := by simp; omega
            have hl : letN x = false := decide_eq_false (by omega)
            go_wp2_with fail
            go_meet
            exact ⟨by rw [hl], rfl⟩
      case rest =>
        obtain ⟨h5, rfl⟩ := hcut
        by_cases hl : letN x = true
        · rw [hl] at h5
          subst h5
          have hn : nameC s[k] = true := by unfold nameC; rw [HX.out, hl]; rfl
          have hd0 : digN x = false := by
            unfold letN at hl
            have := of_decide_eq_true hl
            exact decide_eq_false (by omega)
          have hyes := Lib.hid (all_more hc.out hall.out.1 hn)
          have hd := Lib.hid (show ∀ c, 0 < k + 1 → s.data.toList[0]? = some c → digN c.toNat = false from fun c _ h0 => by
            by_cases hk0 : k = 0
            · have h1 := hc.out
              subst hk0
              rw [h0] at h1
              rw [Option.some.inj h1, HX.out]
              exact hd0
            · exact hall.out.2 c (by omega) h0)
          clear hn hl hd0
          go_wp2_with fail
          go_round
          case rel => exact ⟨k + 1, by omega, by go_num, Lib.hid ⟨hyes.out, hd.out⟩⟩
          case measure => simp [intOf]; omega
        · have hl : letN x = false := by simpa using hl
          rw [hl] at h5
          subst h5
          have HL := Lib.hid hl
          clear hl
          by_cases hd : 48 ≤ x ∧ x ≤ 57
          · have e1 : decide ((x : Int) < 48) = false := decide_eq_false (by omega)
            have e2 : decide ((57 : Int) < x) = false := decide_eq_false (by omega)
            have hdg : digN x = true := decide_eq_true hd
            by_cases hk0 : k = 0
            · have hno := Lib.hid (show nameB s = false from name_dig (c := s[k]) (by have h1 := hc.out; subst hk0; exact h1) (by rw [HX.out]; exact hdg))
              have e3 : ((k : Int) == 0) = true := by simp; omega
              clear hdg hk0
              go_wp2_with fail
              go_ret
              exact ⟨ret_b hno.out.symm, rfl⟩
            · have hn : nameC s[k] = true := by unfold nameC; rw [HX.out, hdg]; simp
              have hyes := Lib.hid (all_more hc.out hall.out.1 hn)
              have hd2 := Lib.hid (show ∀ c, 0 < k + 1 → s.data.toList[0]? = some c → digN c.toNat = false from fun c _ h0 => hall.out.2 c (by omega) h0)
              have e3 : ((k : Int) == 0) = false := by simp; omega
              clear hdg hn
              go_wp2_with fail
              go_round
              case rel => exact ⟨k + 1, by omega, by go_num, Lib.hid ⟨hyes.out, hd2.out⟩⟩
              case measure => simp [intOf]; omega
          · have hdg : digN x = false := decide_eq_false hd
            have hn : nameC s[k] = false := by unfold nameC; rw [HX.out, hdg, HL.out]; rfl
            have hno := Lib.hid (name_no hc.out hn)
            clear hdg hn
            by_cases hk0 : k = 0
            · have e3 : ((k : Int) == 0) = true := by simp; omega
              clear hk0
              go_wp2_with fail
              go_ret
              exact ⟨ret_b hno.out.symm, rfl⟩
            · have e3 : ((k : Int) == 0) = false := by simp; omega
              by_cases h48 : x < 48
              · have e1 : decide ((x : Int) < 48) = true := decide_eq_true (by omega)
                go_wp2_with fail
                go_ret
                exact ⟨ret_b hno.out.symm, rfl⟩
              · have e1 : decide ((x : Int) < 48) = false := decide_eq_false (by omega)
                have e2 : decide ((57 : Int) < x) = true := decide_eq_true (by omega)
                go_wp2_with fail
                go_ret
                exact ⟨ret_b hno.out.symm, rfl⟩
    · have hke : k = s.size := by omega
      have hall2 := hall.out
      rw [List.take_of_length_le (by rw [data_len]; omega)] at hall2
      have HALL := Lib.hid hall2
      clear hall hall2
      subst hke
      by_cases h0 : 1 ≤ s.size
      · have h1 : decide ((1 : Int) ≤ s.size) = true := decide_eq_true (by omega)
        by_cases h2 : s.size ≤ 64
        · have h3 : decide ((s.size : Int) ≤ 64) = true := decide_eq_true (by omega)
          have hy := Lib.hid (name_yes h0 h2 (fun c hc => HALL.out.2 c (by omega) hc) HALL.out.1)
          go_wp2_with fail
          go_ret
          exact ⟨ret_b hy.out.symm, rfl⟩
        · have h3 : decide ((s.size : Int) ≤ 64) = false := decide_eq_false (by omega)
          have hy := Lib.hid (name_size (s := s) (by omega))
          go_wp2_with fail
          go_ret
          exact ⟨ret_b hy.out.symm, rfl⟩
      · have h1 : decide ((1 : Int) ≤ s.size) = false := decide_eq_false (by omega)
        have hy := Lib.hid (name_size (s := s) (by omega))
        go_wp2_with fail
        go_ret
        exact ⟨ret_b hy.out.symm, rfl⟩

set_option maxRecDepth 100000 in
set_option maxHeartbeats 2000000 in
theorem refName_any (s : ByteArray) (w : World) : Calls Tryz.prog 142 #[.string s] w fun e w' => e = .returned (.bool (nameB s)) ∧ w' = w := by
  by_cases hl : 1 ≤ s.size ∧ s.size ≤ 64
  · obtain ⟨hl1, hl2⟩ := hl
    have h1 : decide ((s.size : Int) < 1) = false := decide_eq_false (by omega)
    have h2 : decide ((64 : Int) < s.size) = false := decide_eq_false (by omega)
    have h3 : (0 : Int) < s.size := by omega
    have h3' : 0 < s.size := by omega
    have hc0 := Lib.hid (data_at s 0 (by omega))
    obtain ⟨x, hx⟩ : ∃ x : Nat, (s[0]'h3').toNat = x := ⟨_, rfl⟩
    have HX := Lib.hid hx
    by_cases hd : 48 ≤ x ∧ x ≤ 57
    · have e1 : decide ((48 : Int) ≤ x) = true := decide_eq_true (by omega)
      have e2 : decide ((x : Int) ≤ 57) = true := decide_eq_true (by omega)
      have hno := Lib.hid (name_dig hc0.out (by rw [HX.out]; exact decide_eq_true hd))
      go_enter Tryz.func142, Tryz.ntmps142
      go_wp2_with fail
      go_ret
      exact ⟨ret_b hno.out.symm, rfl⟩
    · have hdx : digN x = false := decide_eq_false hd
      have HD := Lib.hid (show ∀ c, s.data.toList[0]? = some c → digN c.toNat = false from fun c hc => by
        rw [hc0.out] at hc
        rw [← Option.some.inj hc, HX.out]; exact hdx)
      clear hdx
      go_enter Tryz.func142, Tryz.ntmps142
      go_upto_region 1 with fail
      go_cut [22] (fun s22 wx => s22 = .bool false ∧ wx = w)
      case first =>
        by_cases h : 48 ≤ x
        · have e1 : decide ((48 : Int) ≤ x) = true := decide_eq_true (by omega)
          have e2 : decide ((x : Int) ≤ 57) = false := decide_eq_false (by omega)
          go_wp2_with fail
          go_meet
          exact ⟨rfl, rfl⟩
        · have e1 : decide ((48 : Int) ≤ x) = false := decide_eq_false (by omega)
          go_wp2_with fail
          go_meet
          exact ⟨rfl, rfl⟩
      case rest =>
        obtain ⟨rfl, rfl⟩ := hcut
        clear hx
        go_wp2_with fail
        go_loop [3] (fun i => ∃ k : Nat, k ≤ s.size ∧ i = .int .i64 (k : Nat) ∧ Hid ((s.data.toList.take k).all nameC = true)) (fun i => s.size - (intOf i).toNat)
        case atStart => exact ⟨0, by omega, rfl, Lib.hid (by simp)⟩
        case round =>
          obtain ⟨k, hk, rfl, hall⟩ := hrel
          by_cases hlt : k < s.size
          · have hc := Lib.hid (data_at s k hlt)
            obtain ⟨y, hy⟩ : ∃ y : Nat, s[k].toNat = y := ⟨_, rfl⟩
            have HY := Lib.hid hy
            have hyb : y < 256 := by rw [← hy]; exact s[k].toNat_lt
            go_upto_region 7 with fail
            go_cut [58] (fun s58 wx => s58 = .bool (!(letN y || digN y)) ∧ wx = wc)
            case first =>
              have hv : ∀ b : Bool, (letN y || digN y) = b → Value.bool (!b) = .bool (!(letN y || digN y)) := fun b hb => by rw [hb]
              have HV := Lib.hid hv
              clear hv
              by_cases a1 : 97 ≤ y
              · have e1 : decide ((97 : Int) ≤ y) = true := decide_eq_true (by omega)
                have e3 : decide ((65 : Int) ≤ y) = true := decide_eq_true (by omega)
                have e4 : decide ((y : Int) ≤ 90) = false := decide_eq_false (by omega)
                have e6 : decide ((48 : Int) ≤ y) = true := decide_eq_true (by omega)
                have e7 : decide ((y : Int) ≤ 57) = false := decide_eq_false (by omega)
                have e5 : ((y : Int) == 95) = false := by simp; omega
                by_cases a2 : y ≤ 122
                · have e2 : decide ((y : Int) ≤ 122) = true := decide_eq_true (by omega)
                  have hb := HV.out true (by unfold letN digN; simp; omega)
                  have HB := Lib.hid hb
                  clear hb
                  go_wp2_with fail
                  go_meet
                  exact ⟨HB.out, rfl⟩
                · have e2 : decide ((y : Int) ≤ 122) = false := decide_eq_false (by omega)
                  have hb := HV.out false (by unfold letN digN; simp; omega)
                  have HB := Lib.hid hb
                  clear hb
                  go_wp2_with fail
                  go_meet
                  exact ⟨HB.out, rfl⟩
              · have e1 : decide ((97 : Int) ≤ y) = false := decide_eq_false (by omega)
                by_cases b1 : 65 ≤ y
                · have e3 : decide ((65 : Int) ≤ y) = true := decide_eq_true (by omega)
                  have e6 : decide ((48 : Int) ≤ y) = true := decide_eq_true (by omega)
                  have e7 : decide ((y : Int) ≤ 57) = false := decide_eq_false (by omega)
                  by_cases b2 : y ≤ 90
                  · have e4 : decide ((y : Int) ≤ 90) = true := decide_eq_true (by omega)
                    have hb := HV.out true (by unfold letN digN; simp; omega)
                    have HB := Lib.hid hb
                    clear hb
                    go_wp2_with fail
                    go_meet
                    exact ⟨HB.out, rfl⟩
                  · have e4 : decide ((y : Int) ≤ 90) = false := decide_eq_false (by omega)
                    by_cases c1 : y = 95
                    · have e5 : ((y : Int) == 95) = true := by simp; omega
                      have hb := HV.out true (by unfold letN digN; simp; omega)
                      have HB := Lib.hid hb
                      clear hb c1
                      go_wp2_with fail
                      go_meet
                      exact ⟨HB.out, rfl⟩
                    · have e5 : ((y : Int) == 95) = false := by simp; omega
                      have hb := HV.out false (by unfold letN digN; simp; omega)
                      have HB := Lib.hid hb
                      clear hb c1
                      go_wp2_with fail
                      go_meet
                      exact ⟨HB.out, rfl⟩
                · have e3 : decide ((65 : Int) ≤ y) = false := decide_eq_false (by omega)
                  have e5 : ((y : Int) == 95) = false := by simp; omega
                  by_cases d1 : 48 ≤ y
                  · have e6 : decide ((48 : Int) ≤ y) = true := decide_eq_true (by omega)
                    by_cases d2 : y ≤ 57
                    · have e7 : decide ((y : Int) ≤ 57) = true := decide_eq_true (by omega)
                      have hb := HV.out true (by unfold letN digN; simp; omega)
                      have HB := Lib.hid hb
                      clear hb
                      go_wp2_with fail
                      go_meet
                      exact ⟨HB.out, rfl⟩
                    · have e7 : decide ((y : Int) ≤ 57) = false := decide_eq_false (by omega)
                      have hb := HV.out false (by unfold letN digN; simp; omega)
                      have HB := Lib.hid hb
                      clear hb
                      go_wp2_with fail
                      go_meet
                      exact ⟨HB.out, rfl⟩
                  · have e6 : decide ((48 : Int) ≤ y) = false := decide_eq_false (by omega)
                    have hb := HV.out false (by unfold letN digN; simp; omega)
                    have HB := Lib.hid hb
                    clear hb
                    go_wp2_with fail
                    go_meet
                    exact ⟨HB.out, rfl⟩
            case rest =>
              obtain ⟨h58, rfl⟩ := hcut
              by_cases hn : (letN y || digN y) = true
              · have hyes := Lib.hid (all_more hc.out hall.out (by unfold nameC; rw [HY.out, hn]))
                rw [hn] at h58
                subst h58
                clear hn
                go_wp2_with fail
                go_round
                case rel => exact ⟨k + 1, by omega, by go_num, Lib.hid hyes.out⟩
                case measure => simp [intOf]; omega
              · have hn : (letN y || digN y) = false := by simpa using hn
                have hno := Lib.hid (name_no hc.out (by unfold nameC; rw [HY.out, hn]))
                rw [hn] at h58
                subst h58
                clear hn
                go_wp2_with fail
                go_ret
                exact ⟨ret_b hno.out.symm, rfl⟩
          · have hke : k = s.size := by omega
            have hall2 := hall.out
            rw [List.take_of_length_le (by rw [data_len]; omega)] at hall2
            have hy := Lib.hid (name_yes hl1 hl2 HD.out hall2)
            clear hall hall2
            subst hke
            go_wp2_with fail
            go_ret
            exact ⟨ret_b hy.out.symm, rfl⟩
  · have hno := Lib.hid (name_size hl)
    by_cases h0 : s.size < 1
    · have h1 : decide ((s.size : Int) < 1) = true := decide_eq_true (by omega)
      go_enter Tryz.func142, Tryz.ntmps142
      go_wp2_with fail
      go_ret
      exact ⟨ret_b hno.out.symm, rfl⟩
    · have h1 : decide ((s.size : Int) < 1) = false := decide_eq_false (by omega)
      have h2 : decide ((64 : Int) < s.size) = true := decide_eq_true (by omega)
      go_enter Tryz.func142, Tryz.ntmps142
      go_wp2_with fail
      go_ret
      exact ⟨ret_b hno.out.symm, rfl⟩
end Go.Proofs.YtmhjbicbdahllaaGreatDoor
