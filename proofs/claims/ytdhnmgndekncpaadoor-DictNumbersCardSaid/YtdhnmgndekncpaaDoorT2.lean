/- The reference's Number: the text of a number; other numbers have other texts. -/
import Derived.Test.YtdhnmgndekncpaaDoorL6
import Derived.IntWalk
namespace Go.Proofs.YtdhnmgndekncpaaDoor
open Go Go.RowKit Go.Maps Go.WideMaps

/-- The digits of a number. -/
def digL (n : Nat) : List UInt8 := if n < 10 then [UInt8.ofNat (48 + n)] else digL (n / 10) ++ [UInt8.ofNat (48 + n % 10)]
termination_by n
def numL (n : Int) : List UInt8 := if n < 0 then 45 :: digL n.natAbs else digL n.toNat
def valL (l : List UInt8) : Nat := l.foldl (fun a c => a * 10 + (c.toNat - 48)) 0
theorem dig_val (n : Nat) : valL (digL n) = n := by
  induction n using Nat.strongRecOn with
  | ind n ih =>
    rw [digL]
    by_cases h : n < 10
    · rw [if_pos h]
      simp [valL]
      omega
    · rw [if_neg h]
      have := ih (n / 10) (by omega)
      unfold valL at this ⊢
      rw [List.foldl_append, this]
      simp
      omega
theorem dig_len (n : Nat) : (digL n).length ≤ n / 10 + 1 := by
  induction n using Nat.strongRecOn with
  | ind n ih =>
    rw [digL]
    by_cases h : n < 10
    · rw [if_pos h]; simp
    · rw [if_neg h]
      have := ih (n / 10) (by omega)
      simp
      omega
theorem dig_head (n : Nat) : ∃ c r, digL n = c :: r ∧ 48 ≤ c.toNat := by
  induction n using Nat.strongRecOn with
  | ind n ih =>
    rw [digL]
    by_cases h : n < 10
    · rw [if_pos h]
      refine ⟨_, [], rfl, ?_⟩
      simp
      omega
    · rw [if_neg h]
      obtain ⟨c, r, h1, h2⟩ := ih (n / 10) (by omega)
      exact ⟨c, _, by rw [h1]; rfl, h2⟩
theorem numL_inj {a b : Int} (h : numL a = numL b) : a = b := by
  unfold numL at h
  by_cases ha : a < 0 <;> by_cases hb : b < 0
  · rw [if_pos ha, if_pos hb] at h
    injection h with _ h
    have := congrArg valL h
    rw [dig_val, dig_val] at this
    omega
  · rw [if_pos ha, if_neg hb] at h
    obtain ⟨c, r, h1, h2⟩ := dig_head b.toNat
    rw [h1] at h
    injection h with h _
    subst h
    exact absurd h2 (by decide)
  · rw [if_neg ha, if_pos hb] at h
    obtain ⟨c, r, h1, h2⟩ := dig_head a.toNat
    rw [h1] at h
    injection h with h _
    subst h
    exact absurd h2 (by decide)
  · rw [if_neg ha, if_neg hb] at h
    have := congrArg valL h
    rw [dig_val, dig_val] at this
    omega
theorem num_least : strK (numL (-9223372036854775808)) = ⟨#[45, 57, 50, 50, 51, 51, 55, 50, 48, 51, 54, 56, 53, 52, 55, 55, 53, 56, 48, 56]⟩ := by
  unfold numL strK
  simp [digL]
def numS (n : Int) : ByteArray := strK (numL n)
theorem numS_inj {a b : Int} (h : numS a = numS b) : a = b := by
  unfold numS strK at h
  injection h with h
  exact numL_inj (by simpa using congrArg Array.toList h)
theorem numS_len {n : Int} (h1 : -9223372036854775808 ≤ n) (h2 : n ≤ 9223372036854775807) : VS (numS n) := by
  unfold VS numS strK numL maxLen
  have a1 := dig_len n.natAbs
  have a2 := dig_len n.toNat
  split <;> simp [ByteArray.size] <;> omega

theorem conv_one (w : World) (c : UInt8) (x : Int) (h : x = (c.toNat : Int)) : (convert 106 9 (.slice (some ⟨w.heap.size, 0, none⟩) 1 1)).run Tryd.prog (w.alloc (.cells #[.int .u8 x] 5)) = .ok (.string (strK [c])) (w.alloc (.cells #[.int .u8 x] 5)) := by
  subst h
  have he : Tryd.prog.underlying 5 = some (.int .u8) := by kernel_rfl
  have hd : Tryd.prog.underlying 9 = some .string := by kernel_rfl
  exact run_convert_bytes_back (w.alloc (.cells #[.int .u8 (c.toNat : Int)] 5)) 106 9 5 ⟨w.heap.size, 0, none⟩ 1 [c] Tryd.underlying106 he hd (Lib.bytes_of_row (heap_alloc_new w _) rfl)
theorem strK_append (a b : List UInt8) : strK a ++ strK b = strK (a ++ b) := by
  unfold strK
  apply ByteArray.ext
  simp [ByteArray.data_append]
theorem last_dig (n : Nat) : (48 : Int) + (n : Int) % 10 = ((UInt8.ofNat (48 + n % 10)).toNat : Int) := by
  simp
  omega
theorem ret_str {a b : ByteArray} (h : a = b) : Ending.returned (.string a) = .returned (.string b) := by rw [h]

set_option maxRecDepth 100000 in
set_option maxHeartbeats 400000 in
theorem number_pos (n : Nat) (hn : n ≤ 9223372036854775807) (w : World) : Calls Tryd.prog 14 #[.int .i64 n] w fun e w' => e = .returned (.string (strK (digL n))) ∧ Below w.heap.size w w' := by
  induction n using Nat.strongRecOn generalizing w with
  | ind n ih =>
    have e0 : (0 : Int) ≤ n := by omega
    have t0 : ((n : Int) == -9223372036854775808) = false := by simp
    have hcv := conv_one w (UInt8.ofNat (48 + n % 10)) (48 + (n : Int) % 10) (last_dig n)
    have HB := Lib.hid ((Below.refl w.heap.size w).alloc (Nat.le_refl _) (.cells #[.int .u8 (48 + (n : Int) % 10)] 5))
    obtain ⟨s, HS⟩ := name_it (strK [UInt8.ofNat (48 + n % 10)])
    rw [HS.out] at hcv
    have HD := Lib.hid (digL.eq_1 n)
    by_cases h : n < 10
    · have h' : (n : Int) < 10 := by omega
      have hr : s = strK (digL n) := by rw [← HS.out, HD.out, if_pos h, Nat.mod_eq_of_lt h]
      have HR := Lib.hid hr
      clear ih hr
      go_enter Tryd.func14, Tryd.ntmps14
      go_wp2_with fail
      go_ret
      exact ⟨ret_str HR.out, HB.out⟩
    · have h' : (10 : Int) ≤ n := by omega
      have hih := fun w => ih (n / 10) (by omega) (by omega) w
      have HIH := Lib.hid hih
      have hr : strK (digL (n / 10)) ++ s = strK (digL n) := by rw [← HS.out, HD.out, if_neg h, strK_append]
      have HR := Lib.hid hr
      have hts : (strK (digL (n / 10))).size + s.size ≤ 9223372036854775807 := by
        have := dig_len (n / 10)
        have e1 : (strK (digL (n / 10))).size = (digL (n / 10)).length := by unfold strK; simp [ByteArray.size]
        have e2 : s.size = 1 := by rw [← HS.out]; rfl
        omega
      obtain ⟨t, HT⟩ := name_it (strK (digL (n / 10)))
      have hq : (n : Int) / 10 = ((n / 10 : Nat) : Int) := by omega
      obtain ⟨q, HQ⟩ := name_it (n / 10)
      rw [HQ.out] at hq HIH HT HR
      rw [HT.out] at HIH HR
      rw [HQ.out, HT.out] at hts
      clear ih hih hr
      go_enter Tryd.func14, Tryd.ntmps14
      go_wp2_with fail
      refine (HIH.out _).mono ?_
      rintro e w5 ⟨rfl, hb5⟩
      go_wp2_with fail
      go_ret
      exact ⟨ret_str HR.out, HB.out.trans (hb5.mono (by simp))⟩

/-- The text of a number. -/
def NumIs (n : Int) (w : World) (e : Ending) (w' : World) : Prop := e = .returned (.string (numS n)) ∧ Below w.heap.size w w'

set_option maxRecDepth 100000 in
set_option maxHeartbeats 400000 in
theorem number_any (n : Int) (h1 : -9223372036854775808 ≤ n) (h2 : n ≤ 9223372036854775807) (w : World) : Calls Tryd.prog 14 #[.int .i64 n] w (NumIs n w) := by
  by_cases h0 : 0 ≤ n
  · obtain ⟨m, rfl⟩ := Int.eq_ofNat_of_zero_le h0
    refine (number_pos m (by omega) w).mono ?_
    rintro e w' ⟨rfl, hb⟩
    refine ⟨ret_str ?_, hb⟩
    unfold numS numL
    rw [if_neg (by omega)]; rfl
  · by_cases hl : n = -9223372036854775808
    · subst hl
      have HN := Lib.hid num_least
      go_enter Tryd.func14, Tryd.ntmps14
      go_wp2_with fail
      go_ret
      exact ⟨ret_str HN.out.symm, Below.refl _ _⟩
    · have t0 : (n == -9223372036854775808) = false := by simpa using hl
      have h0' : n < 0 := by omega
      obtain ⟨m, HM⟩ := name_it n.natAbs
      have hneg : -n = (m : Int) := by have := HM.out; omega
      have hnw : wrap64 (m : Int) = (m : Int) := by unfold wrap64; omega
      have hc := fun w => number_pos m (by omega) w
      have HC := Lib.hid hc
      have hr : (⟨#[45]⟩ : ByteArray) ++ strK (digL m) = numS n := by
        unfold numS numL
        rw [if_pos h0', HM.out]
        exact strK_append [45] (digL m)
      have HR := Lib.hid hr
      have hsz : (⟨#[45]⟩ : ByteArray).size + (strK (digL m)).size ≤ 9223372036854775807 := by
        have := dig_len m
        show 1 + (strK (digL m)).size ≤ _
        have e : (strK (digL m)).size = (digL m).length := by unfold strK; simp [ByteArray.size]
        omega
      obtain ⟨s, HS⟩ := name_it (strK (digL m))
      rw [HS.out] at HC HR hsz
      clear hc hr hl
      go_enter Tryd.func14, Tryd.ntmps14
      go_wp2_with fail
      refine (HC.out _).mono ?_
      rintro e w5 ⟨rfl, hb5⟩
      go_wp2_with fail
      go_ret
      exact ⟨ret_str HR.out, hb5⟩
end Go.Proofs.YtdhnmgndekncpaaDoor
