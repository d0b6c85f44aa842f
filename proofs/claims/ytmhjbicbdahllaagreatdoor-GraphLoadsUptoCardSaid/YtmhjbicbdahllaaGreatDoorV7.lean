/- The reference's decimals: a digit, a place, all noughts. -/
import Derived.Test.YtmhjbicbdahllaaGreatDoorV6
namespace Go.Proofs.YtmhjbicbdahllaaGreatDoor
open Go Go.RowKit

set_option maxRecDepth 100000 in
set_option maxHeartbeats 1000000 in
theorem digit_any (x : Nat) (hx : x < 256) (w : World) : Calls Tryz.prog 174 #[.int .u8 (x : Int)] w fun e w' => e = .returned (.bool (digN x)) ∧ w' = w := by
  go_enter Tryz.func174, Tryz.ntmps174
  by_cases h1 : x < 48
  · have e1 : decide ((48 : Int) ≤ x) = false := decide_eq_false (by omega)
    have hd : digN x = false := decide_eq_false (by omega)
    go_wp2_with fail
    go_ret
    exact ⟨ret_b hd.symm, rfl⟩
  · have e1 : decide ((48 : Int) ≤ x) = true := decide_eq_true (by omega)
    by_cases h2 : x ≤ 57
    · have e2 : decide ((x : Int) ≤ 57) = true := decide_eq_true (by omega)
      have hd : digN x = true := decide_eq_true (by omega)
      go_wp2_with fail
      go_ret
      exact ⟨ret_b hd.symm, rfl⟩
    · have e2 : decide ((x : Int) ≤ 57) = false := decide_eq_false (by omega)
      have hd : digN x = false := decide_eq_false (by omega)
      go_wp2_with fail
      go_ret
      exact ⟨ret_b hd.symm, rfl⟩

/-- A row of whole numbers in memory, as the walk asks for it. -/
def IntsAt (w : World) (A : Option Addr) (D : List Nat) : Prop := ∀ (i : Nat) (x : Nat), D[i]? = some x → ∃ ad, A = some ad ∧ (ad.add i).block < w.heap.size ∧ w.cell? (ad.add i) = some (.int .i64 (x : Int))
theorem IntsAt.under {w w' : World} {A : Option Addr} {D : List Nat} (h : IntsAt w A D) (hb : Below w.heap.size w w') : IntsAt w' A D := fun i x hx => by
  obtain ⟨ad, hA, hl, hc⟩ := h i x hx
  exact ⟨ad, hA, Nat.lt_of_lt_of_le hl hb.size, (hb.cell (p := ad.add i) hl).trans hc⟩
/-- A place of a row; 0 beyond it. -/
def atD (D : List Nat) (i : Nat) : Nat := (D[i]?).getD 0

set_option maxRecDepth 100000 in
set_option maxHeartbeats 1000000 in
theorem at_any (D : List Nat) (A : Option Addr) (cap : Nat) (i : Nat) (hi : i ≤ 4000000000000) (w : World) (h : IntsAt w A D) :
    Calls Tryz.prog 175 #[.slice A D.length cap, .int .i64 (i : Int)] w (ToldN (atD D i) w) := by
  have HH := Lib.hid h
  clear h
  obtain ⟨n, HN⟩ := name_itV D.length
  rw [HN.out]
  go_enter Tryz.func175, Tryz.ntmps175
  have e0 : decide ((i : Int) < 0) = false := decide_eq_false (by omega)
  by_cases hlt : i < n
  · have hil : i < D.length := by rw [HN.out]; exact hlt
    obtain ⟨ad, rfl, _, hc⟩ := HH.out i _ (List.getElem?_eq_getElem hil)
    have ha : atD D i = D[i] := by unfold atD; rw [List.getElem?_eq_getElem hil]; rfl
    rw [ha]
    obtain ⟨x, HX⟩ := name_itV D[i]
    rw [HX.out] at hc ⊢
    have e1 : decide ((n : Int) ≤ i) = false := decide_eq_false (by omega)
    have e2 : (0 : Int) ≤ i := by omega
    have e3 : (i : Int) < n := by omega
    clear ha
    go_wp2_with fail
    go_ret
    exact ⟨rfl, 0, rfl⟩
  · have ha : atD D i = 0 := by unfold atD; rw [List.getElem?_eq_none (by rw [HN.out]; omega)]; rfl
    rw [ha]
    have e1 : decide ((n : Int) ≤ i) = true := decide_eq_true (by omega)
    clear ha
    go_wp2_with fail
    go_ret
    exact ⟨rfl, 0, rfl⟩

/-- A truth is told; the world but for draws as it was. -/
def ToldBd (b : Bool) (w : World) (e : Ending) (w' : World) : Prop := e = .returned (.bool b) ∧ ∃ m, w' = w.drewN m
theorem all_moreN {p : Nat → Bool} {l : List Nat} {k : Nat} {c : Nat} (h : l[k]? = some c) (ha : (l.take k).all p = true) (hc : p c = true) : (l.take (k + 1)).all p = true := by
  rw [take_oneMore h]; simp [ha, hc]
theorem all_noN {p : Nat → Bool} {l : List Nat} {k : Nat} {c : Nat} (h : l[k]? = some c) (hc : p c = false) : l.all p = false := by
  rw [List.all_eq_false]; exact ⟨c, List.mem_of_getElem? h, by simp [hc]⟩
/-- Are all noughts? -/
def zeroD (D : List Nat) : Bool := D.all (· == 0)

set_option maxRecDepth 100000 in
set_option maxHeartbeats 1000000 in
theorem zero_any (D : List Nat) (hD : D.length ≤ 4000000000000) (A : Option Addr) (cap : Nat) (w : World) (h : IntsAt w A D) :
    Calls Tryz.prog 176 #[.slice A D.length cap] w (ToldBd (zeroD D) w) := by
  have HH := Lib.hid h
  clear h
  obtain ⟨n, HN⟩ := name_itV D.length
  rw [HN.out] at hD ⊢
  go_enter Tryz.func176, Tryz.ntmps176
  go_wp2_with fail
  go_loopw [3] (fun s3 wr => ∃ k m : Nat, k ≤ n ∧ s3 = .int .i64 (k : Nat) ∧ Hid ((D.take k).all (· == 0) = true) ∧ wr = w.drewN m) (fun s3 _ => n - (intOf s3).toNat)
  case atStart => exact ⟨0, 0, by omega, rfl, Lib.hid (by simp), rfl⟩
  case round =>
    obtain ⟨k, m, hk, rfl, hall, hw⟩ := hrel
    have HW := Lib.hid hw
    have HR := Lib.hid (show IntsAt wr A D from by rw [hw]; exact HH.out)
    clear hw
    by_cases hlt : k < n
    · have hil : k < D.length := by rw [HN.out]; exact hlt
      obtain ⟨ad, rfl, _, hc⟩ := HR.out k _ (List.getElem?_eq_getElem hil)
      have hx := Lib.hid (show D[k]? = some D[k] from List.getElem?_eq_getElem hil)
      obtain ⟨x, HX⟩ := name_itV D[k]
      rw [HX.out] at hc hx
      clear HX hil
      have e2 : (0 : Int) ≤ k := by omega
      have e3 : (k : Int) < n := by omega
      by_cases hx0 : x = 0
      · subst hx0
        have hyes := Lib.hid (show (D.take (k + 1)).all (· == 0) = true from all_moreN hx.out hall.out rfl)
        go_wp2_with fail
        go_roundw
        case rel => exact ⟨k + 1, m, by omega, by go_num, hyes, HW.out⟩
        case measure => simp [intOf]; omega
      · have hno := Lib.hid (show zeroD D = false from all_noN hx.out (by simpa using hx0))
        have e4 : ((x : Int) == 0) = false := by simp; omega
        clear hx0
        go_wp2_with fail
        go_ret
        exact ⟨ret_b hno.out.symm, m, HW.out⟩
    · have hke : k = n := by omega
      subst hke
      have hz := Lib.hid (show zeroD D = true from by have := hall.out; rwa [List.take_of_length_le (by rw [HN.out]; omega)] at this)
      go_wp2_with fail
      go_ret
      exact ⟨ret_b hz.out.symm, m, HW.out⟩
end Go.Proofs.YtmhjbicbdahllaaGreatDoor
