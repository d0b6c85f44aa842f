/- Texts that may be an IRI's, names: the program's own tests and the reference's. -/
import Derived.Test.YtmhjbicbdahllaaGreatDoorV2
import Derived.Deep.DeepCutAuto
namespace Go.Proofs.YtmhjbicbdahllaaGreatDoor
open Go Go.RowKit

/-- A byte that no IRI has. -/
def badI (c : UInt8) : Bool := decide (c.toNat ≤ 32 ∨ c.toNat = 60 ∨ c.toNat = 62)
/-- May a text be an IRI's? -/
def iriB (s : ByteArray) : Bool := decide (1 ≤ s.size ∧ s.size ≤ 1048576) && s.data.toList.all fun c => !badI c
theorem data_len (s : ByteArray) : s.data.toList.length = s.size := Array.length_toList
theorem data_at (s : ByteArray) (k : Nat) (h : k < s.size) : s.data.toList[k]? = some s[k] := by
  rw [List.getElem?_eq_getElem (by rw [data_len]; exact h)]; rfl
theorem all_more {p : UInt8 → Bool} {l : List UInt8} {k : Nat} {c : UInt8} (h : l[k]? = some c) (ha : (l.take k).all p = true) (hc : p c = true) : (l.take (k + 1)).all p = true := by
  rw [take_oneMore h, List.all_append, ha]; simp [hc]
theorem all_no {p : UInt8 → Bool} {l : List UInt8} {k : Nat} {c : UInt8} (h : l[k]? = some c) (hc : p c = false) : l.all p = false := by
  rw [List.all_eq_false]
  exact ⟨c, List.mem_of_getElem? h, by simp [hc]⟩
theorem ret_b {a b : Bool} (h : a = b) : Ending.returned (.bool a) = .returned (.bool b) := by rw [h]

set_option maxRecDepth 100000 in
set_option maxHeartbeats 1000000 in
theorem refIri_any (s : ByteArray) (w : World) : Calls Tryz.prog 141 #[.string s] w fun e w' => e = .returned (.bool (iriB s)) ∧ w' = w := by
  by_cases hl : 1 ≤ s.size ∧ s.size ≤ 1048576
  · obtain ⟨hl1, hl2⟩ := hl
    have h1 : decide ((s.size : Int) < 1) = false := decide_eq_false (by omega)
    have h2 : decide ((1048576 : Int) < s.size) = false := decide_eq_false (by omega)
    go_enter Tryz.func141, Tryz.ntmps141
    go_wp2_with fail
    go_loop [3] (fun i => ∃ k : Nat, k ≤ s.size ∧ i = .int .i64 (k : Nat) ∧ Hid ((s.data.toList.take k).all (fun c => !badI c) = true)) (fun i => s.size - (intOf i).toNat)
    case atStart => exact ⟨0, by omega, rfl, Lib.hid (by simp)⟩
    case round =>
      obtain ⟨k, hk, rfl, hall⟩ := hrel
      by_cases hlt : k < s.size
      · have hc := Lib.hid (data_at s k hlt)
        obtain ⟨x, hx⟩ : ∃ x : Nat, s[k].toNat = x := ⟨_, rfl⟩
        have HX := Lib.hid hx
        have hxb : x < 256 := by rw [← hx]; exact s[k].toNat_lt
        by_cases b1 : x ≤ 32
        · have hno := Lib.hid (all_no (p := fun c => !badI c) hc.out (by simp [badI, HX.out, b1]))
          have b1' : (x : Int) ≤ 32 := by omega
          go_wp2_with fail
          go_ret
          exact ⟨ret_b (by unfold iriB; rw [hno.out]; simp), rfl⟩
        · have b1' : decide ((x : Int) ≤ 32) = false := decide_eq_false (by omega)
          by_cases b2 : x = 60
          · have hno := Lib.hid (all_no (p := fun c => !badI c) hc.out (by simp [badI, HX.out, b2]))
            have b2' : ((x : Int) == 60) = true := by simp; omega
            go_wp2_with fail
            go_ret
            exact ⟨ret_b (by unfold iriB; rw [hno.out]; simp), rfl⟩
          · have b2' : ((x : Int) == 60) = false := by simp; omega
            by_cases b3 : x = 62
            · have hno := Lib.hid (all_no (p := fun c => !badI c) hc.out (by simp [badI, HX.out, b3]))
              have b3' : ((x : Int) == 62) = true := by simp; omega
              go_wp2_with fail
              go_ret
              exact ⟨ret_b (by unfold iriB; rw [hno.out]; simp), rfl⟩
            · have b3' : ((x : Int) == 62) = false := by simp; omega
              have hyes := Lib.hid (all_more hc.out hall.out (by simp [badI, HX.out]; omega))
              go_wp2_with fail
              go_round
              case rel => exact ⟨k + 1, by omega, by go_num, Lib.hid hyes.out⟩
              case measure => simp [intOf]; omega
      · have hke : k = s.size := by omega
        have hall2 := hall.out
        rw [List.take_of_length_le (by rw [data_len]; omega)] at hall2
        have HALL := Lib.hid hall2
        clear hall hall2
        subst hke
        go_wp2_with fail
        go_ret
        exact ⟨ret_b (by unfold iriB; rw [HALL.out]; simp; omega), rfl⟩
  · have hno : iriB s = false := by unfold iriB; simp only [decide_eq_false hl]; rfl
    have HNO := Lib.hid hno
    clear hno
    by_cases h0 : s.size < 1
    · have h1 : decide ((s.size : Int) < 1) = true := decide_eq_true (by omega)
      go_enter Tryz.func141, Tryz.ntmps141
      go_wp2_with fail
      go_ret
      exact ⟨ret_b HNO.out.symm, rfl⟩
    · have h1 : decide ((s.size : Int) < 1) = false := decide_eq_false (by omega)
      have h2 : decide ((1048576 : Int) < s.size) = true := decide_eq_true (by omega)
      go_enter Tryz.func141, Tryz.ntmps141
      go_wp2_with fail
      go_ret
      exact ⟨ret_b HNO.out.symm, rfl⟩

set_option maxRecDepth 100000 in
set_option maxHeartbeats 1000000 in
theorem iri_any (s : ByteArray) (hs : s.size ≤ 9223372036854775807) (w : World) : Calls Tryz.prog 99 #[.string s] w fun e w' => e = .returned (.bool (iriB s)) ∧ w' = w := by
  go_enter Tryz.func99, Tryz.ntmps99
  go_wp2_with fail
  go_loop [6] (fun i => ∃ k : Nat, k ≤ s.size ∧ i = .int .i64 (k : Nat) ∧ Hid ((s.data.toList.take k).all (fun c => !badI c) = true)) (fun i => s.size - (intOf i).toNat)
  case atStart => exact ⟨0, by omega, rfl, Lib.hid (by simp)⟩
  case round =>
    obtain ⟨k, hk, rfl, hall⟩ := hrel
    by_cases hlt : k < s.size
    · have hc := Lib.hid (data_at s k hlt)
      obtain ⟨x, hx⟩ : ∃ x : Nat, s[k].toNat = x := ⟨_, rfl⟩
      have HX := Lib.hid hx
      have hxb : x < 256 := by rw [← hx]; exact s[k].toNat_lt
      by_cases b1 : x ≤ 32
      · have hno := Lib.hid (all_no (p := fun c => !badI c) hc.out (by simp [badI, HX.out, b1]))
        have b1' : (x : Int) ≤ 32 := by omega
        go_wp2_with fail
        go_ret
        exact ⟨ret_b (by unfold iriB; rw [hno.out]; simp), rfl⟩
      · have b1' : decide ((x : Int) ≤ 32) = false := decide_eq_false (by omega)
        by_cases b2 : x = 60
        · have hno := Lib.hid (all_no (p := fun c => !badI c) hc.out (by simp [badI, HX.out, b2]))
          have b2' : ((x : Int) == 60) = true := by simp; omega
          go_wp2_with fail
          go_ret
          exact ⟨ret_b (by unfold iriB; rw [hno.out]; simp), rfl⟩
        · have b2' : ((x : Int) == 60) = false := by simp; omega
          by_cases b3 : x = 62
          · have hno := Lib.hid (all_no (p := fun c => !badI c) hc.out (by simp [badI, HX.out, b3]))
            have b3' : ((x : Int) == 62) = true := by simp; omega
            go_wp2_with fail
            go_ret
            exact ⟨ret_b (by unfold iriB; rw [hno.out]; simp), rfl⟩
          · have b3' : ((x : Int) == 62) = false := by simp; omega
            have hyes := Lib.hid (all_more hc.out hall.out (by simp [badI, HX.out]; omega))
            go_wp2_with fail
            go_round
            case rel => exact ⟨k + 1, by omega, by go_num, Lib.hid hyes.out⟩
            case measure => simp [intOf]; omega
    · have hke : k = s.size := by omega
      have hall2 := hall.out
      rw [List.take_of_length_le (by rw [data_len]; omega)] at hall2
      have HALL := Lib.hid hall2
      clear hall hall2
      subst hke
      by_cases h0 : 1 ≤ s.size
      · have h1 : decide ((1 : Int) ≤ s.size) = true := decide_eq_true (by omega)
        by_cases h2 : s.size ≤ 1048576
        · have h3 : decide ((s.size : Int) ≤ 1048576) = true := decide_eq_true (by omega)
          go_wp2_with fail
          go_ret
          exact ⟨ret_b (by unfold iriB; rw [HALL.out]; simp; omega), rfl⟩
        · have h3 : decide ((s.size : Int) ≤ 1048576) = false := decide_eq_false (by omega)
          go_wp2_with fail
          go_ret
          exact ⟨ret_b (by unfold iriB; rw [HALL.out]; simp; omega), rfl⟩
      · have h1 : decide ((1 : Int) ≤ s.size) = false := decide_eq_false (by omega)
        go_wp2_with fail
        go_ret
        exact ⟨ret_b (by unfold iriB; rw [HALL.out]; simp; omega), rfl⟩
end Go.Proofs.YtmhjbicbdahllaaGreatDoor
